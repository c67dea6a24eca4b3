/- PoolOnce: the walk of the statement. Conditions: the script as its memory says; fewer than 2^41 steps. -/
import Derived.Test.YtdgcmihnbkamgaaPoolP
import Derived.BigQuiet
namespace Go.Proofs.Ytdgcmihnbkamgaa
open Go.RowKit
set_option linter.unusedVariables false
set_option linter.unusedSimpArgs false
/-- What holds ahead of each round. -/
structure InvO (w wr : World) (pb : Nat) (v4 v5 : Value) (All : List Md) (FS : List (List UInt8)) (SP : List Bool) (i : Nat) : Prop where
  mem : Onc wr (fun b => b < w.heap.size) pb All v4 v5 FS SP
  bl : Below w.heap.size w wr
  len : All.length ≤ i
  keep : Keep All FS SP
  bnd : Bnd All
set_option maxRecDepth 100000 in
set_option maxHeartbeats 40000000 in
theorem PoolOnce_calls (w : World) (A : Option Addr) (n c : Nat) (ops : List OpR) (hlen : ops.length = n) (hn : n < 2199023255552) (hsc : ScAt w A ops) :
    Calls Try.prog 5 #[.slice A n c] w fun e w' => e = .returned (.bool true) ∧ Below w.heap.size w w' := by
  have HSC := Lib.hid hsc
  have HLEN := Lib.hid hlen
  clear hsc hlen
  go_enter Try.func5, Try.ntmps5
  go_wp2_with (first
    | (go_at_call 7; refine (fixed_calls _).mono ?_; rintro e w1 ⟨rfl, hb⟩; have HB1 := Lib.hid hb; clear hb)
    | (go_at_call 8; refine (new_calls _).mono ?_; rintro e w2 ⟨pb, rfl, hpb, hp, hb⟩; have HP2 := Lib.hid (hp.mono (fun b h => Nat.le_trans HB1.out.size h)); have HB2 := Lib.hid (HB1.out.trans (hb.mono HB1.out.size)); clear hp hb))
  have HI : Hid (InvO w w2 pb (.slice none 0 0) (.slice none 0 0) [] [] [] 0) := Lib.hid ⟨⟨_, fun _ => False, fun _ => False, HP2.out.bd, ⟨World.ownsRow_nil _ _ _ _, fun k hk => by cases hk⟩, ⟨World.ownsRow_nil _ _ _ _, fun k hk => by cases hk⟩, fun b _ => ⟨id, id⟩, fun b _ => id, (fun b hb => by have h := hb.elim id (fun h => h.elim False.elim False.elim); exact ⟨by have := h.1; omega, h.2⟩), fun b hb => by have := HB2.out.size; omega⟩, HB2.out, Nat.le_refl _, ⟨rfl, rfl, fun j m f h => by cases h⟩, fun m hm => by cases hm⟩
  clear HP2 HB2 HB1 hpb
  go_loopg [4, 5, 6] n (fun k v4 v5 v6 wr => ∃ (i : Nat) (All : List Md) (FS : List (List UInt8)) (SP : List Bool), i ≤ n ∧ v6 = .int .i64 i ∧ k = n - i ∧ Hid (InvO w wr pb v4 v5 All FS SP i))
  case atStart => exact ⟨0, [], [], [], Nat.zero_le _, rfl, rfl, HI⟩
  case round =>
    obtain ⟨i, All, FS, SP, hi, rfl, hq, HIr⟩ := hrel
    have HQ := Lib.hid hq
    clear hq HI
    obtain ⟨A4, c4, A5, c5, e4, e5, _, _⟩ := HIr.out.mem.shape
    have HL := Lib.hid HIr.out.keep.len
    rw [HL.out.1] at e4
    rw [HL.out.2] at e5
    subst e4 e5
    by_cases hil : i < n
    · obtain ⟨o, ho⟩ : ∃ o, ops[i]? = some o := ⟨ops[i]'(by have := HLEN.out; omega), List.getElem?_eq_getElem _⟩
      obtain ⟨⟨ok1, ok2, ok3, ok4, ok5, ok6⟩, a, rfl, x0, x1, x2, x3, x4, x5⟩ := HSC.out i o ho
      have y0 := cell_keeps HIr.out.bl _ _ x0
      have y1 := cell_keeps HIr.out.bl _ _ x1
      have y2 := cell_keeps HIr.out.bl _ _ x2
      have y3 := cell_keeps HIr.out.bl _ _ x3
      have y4 := cell_keeps HIr.out.bl _ _ x4
      have y5 := cell_keeps HIr.out.bl _ _ x5
      clear x0 x1 x2 x3 x4 x5
      have hlt : (i : Int) < (n : Int) := by omega
      have hdec : decide ((i : Int) < (n : Int)) = true := decide_eq_true hlt
      have hu28 := Try.underlying28
      obtain ⟨bA, bc, hv⟩ := ok5.shape
      obtain ⟨ok, os, on, ox, oy, ov, ob⟩ := o
      dsimp only at ok1 ok2 ok3 ok5 ok6 y0 y1 y2 y3 y4 y5 hv
      subst hv
      have OK2 := Lib.hid ok2
      have OK3 := Lib.hid ok3
      have OK6 := Lib.hid ok6
      have HBY := Lib.hid (ok5.keep HIr.out.bl)
      obtain ⟨xu, hx⟩ : ∃ x, under All on = x := ⟨_, rfl⟩
      have HAL := Lib.hid ((Below.refl wr.heap.size wr).alloc (Nat.le_refl _) (.cells #[.int .i64 ok, .bool os, .int .i64 on, .int .i64 ox, .int .i64 oy, .slice bA ob.length bc] 28))
      have HB1 := Lib.hid (Box6.new wr ok os on ox oy (.slice bA ob.length bc))
      have HM1 := Lib.hid (HIr.out.mem.fence HAL.out)
      have HS1 := Lib.hid (show (wr.alloc (.cells #[.int .i64 ok, .bool os, .int .i64 on, .int .i64 ox, .int .i64 oy, .slice bA ob.length bc] 28)).heap.size = wr.heap.size + 1 by simp)
      have HBL1 := Lib.hid (HIr.out.bl.trans (HAL.out.mono HIr.out.bl.size))
      have HLN := Lib.hid (show All.length < 2199023255552 by have := HIr.out.len; omega)
      have HX := Lib.hid hx
      clear hx ok1 ok2 ok3 ok4 ok5 ok6 ho
      cases xu with
      | some m =>
        have HML := Lib.hid (HIr.out.bnd m (under_mem HX.out))
        obtain ⟨j, f, rfl, hj, hf4, hpre, hs5, hmj, hms⟩ := HIr.out.keep.here HX.out
        obtain ⟨g4, e4, cl4⟩ := HM1.out.cell4 hf4
        obtain ⟨g5, e5, cl5, fz5, _⟩ := HM1.out.cell5 hs5
        subst e4 e5
        have z1 : (1 : Int) ≤ (j : Int) + 1 := by omega
        have z2 : (j : Int) + 1 ≤ (All.length : Int) := by omega
        have z3 : decide ((1 : Int) ≤ (j : Int) + 1) = true := decide_eq_true z1
        have z4 : decide ((j : Int) + 1 ≤ (All.length : Int)) = true := decide_eq_true z2
        have z5 : IntKind.i64.wrap (j : Int) = (j : Int) := by have := HLN.out; rw [IntKind.wrap_i64]; omega
        have z5' : wrap64 (j : Int) = (j : Int) := by have := HLN.out; unfold wrap64; omega
        have z9 : max ((j : Int) + 1) 1 = (j : Int) + 1 := by omega
        have z6 : (0 : Int) ≤ (j : Int) := by omega
        have z8 : (j : Int) < (All.length : Int) := by omega
        have HF4 := Lib.hid hf4
        have HPRE := Lib.hid hpre
        have HS5 := Lib.hid hs5
        clear hf4 hpre hs5 hmj hms hj
        by_cases hk1 : ok = 1
        · as_aux_lemma =>
            subst hk1
            have hM1 := HM1.out
            have hB1 := HB1.out
            have hBL1 := HBL1.out
            have hS1 := HS1.out
            have hAL := HAL.out
            clear HM1 HB1 HBL1 HS1 HAL
            obtain ⟨W1, hW1⟩ : ∃ W1, wr.alloc (.cells #[.int .i64 1, .bool os, .int .i64 ((j : Int) + 1), .int .i64 ox, .int .i64 oy, .slice bA ob.length bc] 28) = W1 := ⟨_, rfl⟩
            rw [hW1] at hM1 hB1 hBL1 hS1 hAL
            rw [hW1] at cl4 cl5 fz5
            obtain ⟨⟨q0, q1, q2, q3, q4, q5⟩, _⟩ := hB1.bx
            have HM1 := Lib.hid hM1
            have HB1 := Lib.hid hB1
            have HBL1 := Lib.hid hBL1
            have HS1 := Lib.hid hS1
            have HAL := Lib.hid hAL
            clear hM1 hB1 hBL1 hS1 hAL
            obtain ⟨v4', w3, hr4, hM3, ht3⟩ := HM1.out.push4 ob 46 (by have h1 := HL.out.1; have := HLN.out; omega)
            obtain ⟨v5', w4, hr5, hM4, ht4⟩ := hM3.push5 false 47 (by have h1 := HL.out.2; have := HLN.out; omega)
            have hs1 := HS1.out
            have hB4 := (HB1.out.turn ht3 (fun h => h (.inr ⟨Nat.le_refl _, by omega⟩))).turn ht4 (fun h => h (.inr ⟨Nat.le_refl _, by omega⟩))
            have hBL4 := ht4.exBelow (fun b hb => .inl hb) (ht3.exBelow (fun b hb => .inl hb) HBL1.out)
            have hV1 := HBY.out.below HAL.out
            have s1 := hV1.str
            have hV4 := (hV1.turn ht3 (fun b hb h => h (.inl hb))).turn ht4 (fun b hb h => h (.inl hb))
            have hkp := HIr.out.keep.snoc ox oy (List.prefix_rfl (l := ob))
            obtain ⟨A4', c4', A5', c5', e4, e5, _, _⟩ := hM4.shape
            rw [show (FS ++ [ob]).length = All.length + 1 by rw [List.length_append, HL.out.1]; rfl] at e4
            rw [show (SP ++ [false]).length = All.length + 1 by rw [List.length_append, HL.out.2]; rfl] at e5
            subst e4 e5
            have HR4 := Lib.hid hr4
            have HR5 := Lib.hid hr5
            have HKP := Lib.hid hkp
            obtain ⟨v', w5, hr, ho5, hb5⟩ := fresh_append w4.drew 26 (hV4.below (Below.drew (Below.refl _ _))) OK6.out
            obtain ⟨A', c', rfl⟩ := ho5.bys.shape
            have hb5' : Below w4.heap.size w4 w5 := (Below.drew (Below.refl w4.heap.size w4)).trans hb5
            have HR := Lib.hid (show (Builtin.append_ #[26, 26] 26 #[.slice (some ⟨w4.heap.size, 0, none⟩) 0 0, .slice bA ob.length bc]).run Try.prog (w4.alloc (.cells #[] 5)).drew = .ok (.slice A' ob.length c') w5 from hr)
            have HQ1 := Lib.hid hB4.bx.1.2.2.2
            have HQ2 := Lib.hid (Box6.bx (show Box6 (w4.alloc (.cells #[] 5)).drew _ _ _ _ _ _ _ from hB4.below (Below.drew ((Below.refl _ _).alloc (Nat.le_refl _) _)))).1.2.2.2
            have HQ3 := Lib.hid (hB4.below hb5').bx.1.2.2.2
            have HB5 := Lib.hid (hB4.below hb5')
            have HM5 := Lib.hid (hM4.below hb5')
            have HBL5 := Lib.hid (hBL4.trans (hb5'.mono hBL4.size))
            have HO5 := Lib.hid ho5.bys
            have HWS := Lib.hid hs1
            clear hr4 hr5 hM3 hM4 ht3 ht4 hB4 hBL4 hV1 hV4 hkp hr ho5 hb5 hb5' hs1
            go_wp2_with (first | (at_builtin; (refine wpList_append_run rfl _ _ _ rfl rfl rfl HR4.out ?_)) | (at_builtin; (refine wpList_append_run rfl _ _ _ rfl rfl rfl HR5.out ?_)))
            clear s1 q0 q1 q2 q3 q4 q5 cl4 cl5 fz5
            go_region_held3 (fun w' => w'.cell? ⟨wr.heap.size, 3, none⟩ = some (.int .i64 ox) ∧ w'.cell? ⟨wr.heap.size, 4, none⟩ = some (.int .i64 oy) ∧ w'.cell? ⟨wr.heap.size, 5, none⟩ = some (.slice bA ob.length bc))
              (first | with_reducible exact HQ4.out | with_reducible exact HQ3.out | with_reducible exact HQ2.out | exact HQ1.out)
              (first
                | (go_at_call 9; (refine (once_put HM5.out ox oy HO5.out OK6.out (by have := HLN.out; omega)).mono ?_); rintro e w6 ⟨rfl, hm6, ht6⟩; have HQ4 := Lib.hid (HB5.out.turn ht6 (fun h => h (.inr ⟨Nat.le_refl _, by have := HWS.out; omega⟩))).bx.1.2.2.2; have HM6 := Lib.hid hm6; have HBL6 := Lib.hid (ht6.exBelow (fun b hb => .inl hb) HBL5.out); clear hm6 ht6)
                | (refine step_append_run (by rfl) _ _ _ (by rfl) (by rfl) (by rfl) HR.out ?_))
            have hL := HL.out
            have hll : (All ++ [(⟨ox, oy, ob, false⟩ : Md)]).length = All.length + 1 := by simp
            go_wp2_with fail
            refine (once_made HM6.out).mono ?_
            rintro e w9 ⟨rfl, hb9⟩
            have HI9 := Lib.hid (show InvO w w9 pb _ _ _ _ _ (i + 1) from ⟨((HM6.out).below hb9).less (fun b hb => .inl hb), HBL6.out.trans (hb9.mono HBL6.out.size), by have := HIr.out.len; rw [hll]; omega, HKP.out, (HIr.out.bnd.snoc (m := ⟨ox, oy, ob, false⟩) OK6.out)⟩)
            clear hb9
            go_wp2
            go_roundg (n - (i + 1))
            case measure => have := HQ.out; omega
            case rel => exact ⟨i + 1, _, _, _, by omega, by go_num, rfl, HI9⟩
        · skip
          by_cases hk3 : ok = 3
          · as_aux_lemma =>
              subst hk3
              go_wp2_with fail
              have hM1 := HM1.out
              have hB1 := HB1.out
              have hBL1 := HBL1.out
              have hS1 := HS1.out
              clear cl4 cl5 fz5
              generalize wr.alloc (.cells #[.int .i64 3, .bool os, .int .i64 ((j : Int) + 1), .int .i64 ox, .int .i64 oy, .slice bA ob.length bc] 28) = W1 at *
              refine (once_take_some hM1 _ OK2.out HX.out HML.out).mono ?_
              rintro e w2 ⟨A2, c2, rfl, ho2, hM2, ht2⟩
              have hB2 := hB1.turn ht2 (fun h => h (.inr ⟨Nat.le_refl _, by omega⟩))
              have hBL2 := ht2.exBelow (fun b hb => .inl hb) hBL1
              have hd : Below w2.heap.size w2 (w2.alloc (.cells #[.int .i64 m.f, .int .i64 m.t, .slice A2 m.b.length c2] 31)).drew := Below.drew ((Below.refl _ _).alloc (Nat.le_refl _) _)
              have hM3 := hM2.below hd
              have hBL3 := hBL2.trans (hd.mono hBL2.size)
              obtain ⟨g', e', cl4⟩ := hM3.cell4 HF4.out
              cases e'
              obtain ⟨g', e', cl5, fz5, st5⟩ := hM3.cell5 HS5.out
              cases e'
              obtain ⟨hM4, ht4⟩ := st5 true
              have hBL4 := ht4.exBelow (fun b hb => .inl hb) hBL3
              have q2 := (hB2.below hd).bx.1.2.2.1
              have ql := (Box3.bx (Box3.below (Box3.new w2 (.int .i64 m.f) (.int .i64 m.t) (.slice A2 m.b.length c2)) (Below.drew (Below.refl _ _)))).1.2.2
              have qs := (ho2.below hd).str
              clear hM1 hM2 ht2 hB1 hB2 hBL1 hBL2 st5 ht4 hM3 hBL3 ho2 hd
              go_wp2_with fail
              go_region_held3 (fun w' => w'.cell? ⟨wr.heap.size, 2, none⟩ = some (.int .i64 ((j : Int) + 1)) ∧ w'.cell? ⟨g4, j, none⟩ = some (.string ⟨f.toArray⟩) ∧ w'.cell? ⟨w2.heap.size, 2, none⟩ = some (.slice A2 m.b.length c2) ∧ (convert 26 9 (.slice A2 m.b.length c2)).run Try.prog w' = .ok (.string ⟨m.b.toArray⟩) w')
                (exact ⟨q2, cl4, ql, qs⟩)
                ((go_at_call 17; (refine (begins_calls _ f m.b HPRE.out).mono ?_); rintro e w4 ⟨rfl, rfl⟩))
              go_wp2_with fail
              clear q2 cl5 fz5 cl4 ql qs
              refine (once_made hM4).mono ?_
              rintro e w9 ⟨rfl, hb9⟩
              have HI9 := Lib.hid (show InvO w w9 pb _ _ _ _ _ (i + 1) from ⟨((hM4).below hb9).less (fun b hb => .inl hb), hBL4.trans (hb9.mono hBL4.size), by have := HIr.out.len; rw [spentAt_length]; omega, (HIr.out.keep.spend rfl HX.out), (HIr.out.bnd.spent _)⟩)
              have hsl := spentAt_length All ((j : Int) + 1)
              clear hM4 hBL4 hb9
              have hL := HL.out
              go_wp2
              go_roundg (n - (i + 1))
              case measure => have := HQ.out; omega
              case rel => exact ⟨i + 1, _, _, _, by omega, by go_num, rfl, HI9⟩
          · skip
            by_cases hk4 : ok = 4
            · as_aux_lemma =>
                subst hk4
                go_wp2_with fail
                have hM1 := HM1.out
                have hB1 := HB1.out
                have hBL1 := HBL1.out
                have hS1 := HS1.out
                clear cl4 cl5 fz5
                generalize wr.alloc (.cells #[.int .i64 4, .bool os, .int .i64 ((j : Int) + 1), .int .i64 ox, .int .i64 oy, .slice bA ob.length bc] 28) = W1 at *
                refine (once_drop_some hM1 _ OK2.out HX.out HML.out).mono ?_
                rintro e w2 ⟨rfl, hM2, ht2⟩
                have hB2 := hB1.turn ht2 (fun h => h (.inr ⟨Nat.le_refl _, by omega⟩))
                have hBL2 := ht2.exBelow (fun b hb => .inl hb) hBL1
                obtain ⟨g', e', cl5, fz5, st5⟩ := hM2.cell5 HS5.out
                cases e'
                obtain ⟨hM3, ht3⟩ := st5 true
                have hBL3 := ht3.exBelow (fun b hb => .inl hb) hBL2
                obtain ⟨⟨_, _, q2, _⟩, _⟩ := hB2.bx
                have hS2 := ht2.size
                clear hM1 hM2 ht2 hB1 hB2 hBL1 hBL2 st5 ht3
                go_wp2_with fail
                clear q2 cl5 fz5
                refine (once_made hM3).mono ?_
                rintro e w9 ⟨rfl, hb9⟩
                have HI9 := Lib.hid (show InvO w w9 pb _ _ _ _ _ (i + 1) from ⟨((hM3).below hb9).less (fun b hb => .inl hb), hBL3.trans (hb9.mono hBL3.size), by have := HIr.out.len; rw [spentAt_length]; omega, (HIr.out.keep.spend rfl HX.out), (HIr.out.bnd.spent _)⟩)
                have hsl := spentAt_length All ((j : Int) + 1)
                clear hM3 hBL3 hb9
                have hL := HL.out
                go_wp2
                go_roundg (n - (i + 1))
                case measure => have := HQ.out; omega
                case rel => exact ⟨i + 1, _, _, _, by omega, by go_num, rfl, HI9⟩
            · skip
              by_cases hk5 : ok = 5
              · as_aux_lemma =>
                  subst hk5
                  go_wp2_with fail
                  have hM1 := HM1.out
                  have hB1 := HB1.out
                  have hBL1 := HBL1.out
                  have hS1 := HS1.out
                  clear cl4 cl5 fz5
                  generalize wr.alloc (.cells #[.int .i64 5, .bool os, .int .i64 ((j : Int) + 1), .int .i64 ox, .int .i64 oy, .slice bA ob.length bc] 28) = W1 at *
                  refine (once_copy hM1 _ OK2.out HX.out HML.out (by have := HLN.out; omega)).mono ?_
                  rintro e w2 ⟨rfl, hM2, ht2⟩
                  have hB2 := hB1.turn ht2 (fun h => h (.inr ⟨Nat.le_refl _, by omega⟩))
                  have hBL2 := ht2.exBelow (fun b hb => .inl hb) hBL1
                  obtain ⟨g', e', cl4⟩ := hM2.cell4 HF4.out
                  cases e'
                  obtain ⟨v4', w3, hr4, hM3, ht3⟩ := hM2.push4 f 46 (by have h1 := HL.out.1; have := HLN.out; omega)
                  obtain ⟨v5', w4, hr5, hM4, ht4⟩ := hM3.push5 false 47 (by have h1 := HL.out.2; have := HLN.out; omega)
                  have hBL3 := ht3.exBelow (fun b hb => .inl hb) hBL2
                  have hBL4 := ht4.exBelow (fun b hb => .inl hb) hBL3
                  obtain ⟨⟨_, _, q2, _⟩, _⟩ := hB2.bx
                  have hw := HLN.out
                  have hw1 : wrap64 ((All.length : Int) + 1) = (All.length : Int) + 1 := by unfold wrap64; omega
                  have hw2 : IntKind.i64.wrap ((All.length : Int) + 1) = (All.length : Int) + 1 := by rw [IntKind.wrap_i64]; omega
                  obtain ⟨A4', c4', A5', c5', e4, e5, _, _⟩ := hM4.shape
                  have hkp := HIr.out.keep.snoc m.f m.t HPRE.out
                  rw [show (FS ++ [f]).length = All.length + 1 by rw [List.length_append, HL.out.1]; rfl] at e4
                  rw [show (SP ++ [false]).length = All.length + 1 by rw [List.length_append, HL.out.2]; rfl] at e5
                  subst e4 e5
                  have HR4 := Lib.hid hr4
                  have HR5 := Lib.hid hr5
                  have HKP := Lib.hid hkp
                  have hll : (All ++ [(⟨m.f, m.t, m.b, false⟩ : Md)]).length = All.length + 1 := by simp
                  clear hM1 hM2 hM3 ht2 ht3 ht4 hB1 hB2 hBL1 hBL2 hBL3 hr4 hr5 hkp hw
                  have hL := HL.out
                  go_wp2_with (first | (at_builtin; (refine wpList_append_run rfl _ _ _ rfl rfl rfl HR4.out ?_)) | (at_builtin; (refine wpList_append_run rfl _ _ _ rfl rfl rfl HR5.out ?_)))
                  clear q2 cl4
                  refine (once_made hM4).mono ?_
                  rintro e w9 ⟨rfl, hb9⟩
                  have HI9 := Lib.hid (show InvO w w9 pb _ _ _ _ _ (i + 1) from ⟨((hM4).below hb9).less (fun b hb => .inl hb), hBL4.trans (hb9.mono hBL4.size), by have := HIr.out.len; rw [hll]; omega, HKP.out, (HIr.out.bnd.snoc (m := ⟨m.f, m.t, m.b, false⟩) HML.out)⟩)
                  clear hM4 hBL4 hb9
                  go_wp2
                  go_roundg (n - (i + 1))
                  case measure => have := HQ.out; omega
                  case rel => exact ⟨i + 1, _, _, _, by omega, by go_num, rfl, HI9⟩
              · skip
                by_cases hk6 : ok = 6
                · as_aux_lemma =>
                    subst hk6
                    by_cases hcx : ox < 1
                    · have HX4 := Lib.hid (show under (trimAt All ((j : Int) + 1) ox) ((j : Int) + 1) = some ⟨m.f, m.t, m.b, m.s⟩ by rw [under_trimmed ox HX.out, if_pos hcx])
                      have HBB := HML
                      have HPF := Lib.hid (List.prefix_rfl (l := m.b))
                      have zx : decide (0 < ox) = false := decide_eq_false (by omega)
                      clear hcx
                      go_wp2_with fail
                      have hM1 := HM1.out
                      have hB1 := HB1.out
                      have hBL1 := HBL1.out
                      have hS1 := HS1.out
                      clear cl4 cl5 fz5
                      generalize wr.alloc (.cells #[.int .i64 6, .bool os, .int .i64 ((j : Int) + 1), .int .i64 ox, .int .i64 oy, .slice bA ob.length bc] 28) = W1 at *
                      refine (once_look_some hM1 _ OK2.out HX.out HML.out).mono ?_
                      rintro e w2 ⟨A2, c2, rfl, ho2, hb2⟩
                      have hM2 := hM1.fence hb2
                      have hB2 := hB1.below hb2
                      have hBL2 := hBL1.trans (hb2.mono hBL1.size)
                      have hs2 := hb2.size
                      have hal2 := (Below.refl w2.heap.size w2).alloc (Nat.le_refl _) (.cells #[.int .i64 m.f, .int .i64 m.t, .slice A2 m.b.length c2] 31)
                      have hC := Box3.new w2 (.int .i64 m.f) (.int .i64 m.t) (.slice A2 m.b.length c2)
                      have hM3 := hM2.fence hal2
                      have hB3 := hB2.below hal2
                      have hBL3 := hBL2.trans (hal2.mono hBL2.size)
                      have hO3 := ho2.below hal2
                      have hs3 : (w2.alloc (.cells #[.int .i64 m.f, .int .i64 m.t, .slice A2 m.b.length c2] 31)).heap.size = w2.heap.size + 1 := by simp
                      obtain ⟨⟨_, _, q2, q3, _⟩, _⟩ := hB3.bx
                      clear hM1 hM2 hB1 hB2 hBL1 hBL2 hb2 hal2 ho2
                      go_wp2_with fail
                      generalize w2.alloc (.cells #[.int .i64 m.f, .int .i64 m.t, .slice A2 m.b.length c2] 31) = W3 at *
                      clear q2 q3
                      refine (once_trim hM3 _ OK2.out ox OK3.out HX.out HML.out (by have := HLN.out; omega)).mono ?_
                      rintro e w4 ⟨rfl, hM4, ht4⟩
                      have hB4 := hB3.turn ht4 (fun h => h (.inl (.inl (.inr ⟨Nat.le_refl _, by omega⟩))))
                      have hC4 := hC.turn ht4 (fun h => h (.inr ⟨Nat.le_refl _, by omega⟩))
                      have hO4 := hO3.turn ht4 (fun b hb h => h (.inl (.inr hb)))
                      have hBL4 := ht4.exBelow (fun b hb => .inl (.inl (.inl hb))) hBL3
                      obtain ⟨⟨_, _, q2, q3, _⟩, _⟩ := hB4.bx
                      clear hM3 hB3 hBL3 ht4 hC hO3
                      go_wp2_with fail
                      clear q2 q3
                      refine (once_look_some hM4 _ OK2.out HX4.out HBB.out).mono ?_
                      rintro e w5 ⟨A3, c3, rfl, ho5, hb5⟩
                      have hal5 := (Below.refl w5.heap.size w5).alloc (Nat.le_refl _) (.cells #[.int .i64 m.f, .int .i64 m.t, .slice A3 (m.b).length c3] 31)
                      have hd5 := hb5.trans (hal5.mono hb5.size)
                      have hM5 := hM4.below hd5
                      have hBL5 := hBL4.trans (hd5.mono hBL4.size)
                      have hC5 := hC4.below hd5
                      have hO5 := hO4.below hd5
                      have hP5 := ho5.below hal5
                      have hD5 := Box3.new w5 (.int .i64 m.f) (.int .i64 m.t) (.slice A3 (m.b).length c3)
                      obtain ⟨⟨_, _, q2, q3, _⟩, _⟩ := (hB4.below hd5).bx
                      obtain ⟨⟨_, _, r2⟩, _, _, _⟩ := hC5.bx
                      obtain ⟨⟨_, _, t2⟩, _, _, _⟩ := hD5.bx
                      have s2 := hO5.str
                      have s3 := hP5.str
                      clear hM4 hB4 hBL4 hb5 hal5 hd5 ho5 hC4 hC5 hD5 hO4 hO5 hP5
                      go_wp2_with (go_at_call 17; refine (begins_calls _ m.b (m.b) HPF.out).mono ?_; rintro e w7 ⟨rfl, rfl⟩)
                      clear q2 q3 r2 t2 s2 s3
                      refine (once_made hM5).mono ?_
                      rintro e w9 ⟨rfl, hb9⟩
                      have HI9 := Lib.hid (show InvO w w9 pb _ _ _ _ _ (i + 1) from ⟨(hM5.below hb9).less (fun b hb => .inl (.inl (.inl hb))), hBL5.trans (hb9.mono hBL5.size), by have := HIr.out.len; rw [trimAt_length]; omega, HIr.out.keep.cut _ _, HIr.out.bnd.trim _ _⟩)
                      have hsl := trimAt_length All ((j : Int) + 1) ox
                      clear hM5 hBL5 hb9
                      have hL := HL.out
                      go_wp2
                      go_roundg (n - (i + 1))
                      case measure => have := HQ.out; omega
                      case rel => exact ⟨i + 1, _, _, _, by omega, by go_num, rfl, HI9⟩
                    by_cases hcl : m.b.length = 0
                    · have HX4 := Lib.hid (show under (trimAt All ((j : Int) + 1) ox) ((j : Int) + 1) = some ⟨m.f, m.t, cutOf m.b ox, m.s⟩ by rw [under_trimmed ox HX.out, if_neg hcx])
                      have HBB := Lib.hid (Nat.le_trans (cutOf_le m.b ox) HML.out)
                      have HPF := Lib.hid (show cutOf m.b ox <+: m.b from List.take_prefix _ _)
                      have zx : decide (0 < ox) = true := decide_eq_true (by omega)
                      have zl : decide (0 < (m.b.length : Int)) = false := decide_eq_false (by omega)
                      have zl2 : decide (0 < m.b.length) = false := decide_eq_false (by omega)
                      clear hcx hcl
                      go_wp2_with fail
                      have hM1 := HM1.out
                      have hB1 := HB1.out
                      have hBL1 := HBL1.out
                      have hS1 := HS1.out
                      clear cl4 cl5 fz5
                      generalize wr.alloc (.cells #[.int .i64 6, .bool os, .int .i64 ((j : Int) + 1), .int .i64 ox, .int .i64 oy, .slice bA ob.length bc] 28) = W1 at *
                      refine (once_look_some hM1 _ OK2.out HX.out HML.out).mono ?_
                      rintro e w2 ⟨A2, c2, rfl, ho2, hb2⟩
                      have hM2 := hM1.fence hb2
                      have hB2 := hB1.below hb2
                      have hBL2 := hBL1.trans (hb2.mono hBL1.size)
                      have hs2 := hb2.size
                      have hal2 := (Below.refl w2.heap.size w2).alloc (Nat.le_refl _) (.cells #[.int .i64 m.f, .int .i64 m.t, .slice A2 m.b.length c2] 31)
                      have hC := Box3.new w2 (.int .i64 m.f) (.int .i64 m.t) (.slice A2 m.b.length c2)
                      have hM3 := hM2.fence hal2
                      have hB3 := hB2.below hal2
                      have hBL3 := hBL2.trans (hal2.mono hBL2.size)
                      have hO3 := ho2.below hal2
                      have hs3 : (w2.alloc (.cells #[.int .i64 m.f, .int .i64 m.t, .slice A2 m.b.length c2] 31)).heap.size = w2.heap.size + 1 := by simp
                      obtain ⟨⟨_, _, q2, q3, _⟩, _⟩ := hB3.bx
                      clear hM1 hM2 hB1 hB2 hBL1 hBL2 hb2 hal2 ho2
                      go_wp2_with fail
                      generalize w2.alloc (.cells #[.int .i64 m.f, .int .i64 m.t, .slice A2 m.b.length c2] 31) = W3 at *
                      clear q2 q3
                      refine (once_trim hM3 _ OK2.out ox OK3.out HX.out HML.out (by have := HLN.out; omega)).mono ?_
                      rintro e w4 ⟨rfl, hM4, ht4⟩
                      have hB4 := hB3.turn ht4 (fun h => h (.inl (.inl (.inr ⟨Nat.le_refl _, by omega⟩))))
                      have hC4 := hC.turn ht4 (fun h => h (.inr ⟨Nat.le_refl _, by omega⟩))
                      have hO4 := hO3.turn ht4 (fun b hb h => h (.inl (.inr hb)))
                      have hBL4 := ht4.exBelow (fun b hb => .inl (.inl (.inl hb))) hBL3
                      obtain ⟨⟨_, _, q2, q3, _⟩, _⟩ := hB4.bx
                      clear hM3 hB3 hBL3 ht4 hC hO3
                      go_wp2_with fail
                      clear q2 q3
                      refine (once_look_some hM4 _ OK2.out HX4.out HBB.out).mono ?_
                      rintro e w5 ⟨A3, c3, rfl, ho5, hb5⟩
                      have hal5 := (Below.refl w5.heap.size w5).alloc (Nat.le_refl _) (.cells #[.int .i64 m.f, .int .i64 m.t, .slice A3 (cutOf m.b ox).length c3] 31)
                      have hd5 := hb5.trans (hal5.mono hb5.size)
                      have hM5 := hM4.below hd5
                      have hBL5 := hBL4.trans (hd5.mono hBL4.size)
                      have hC5 := hC4.below hd5
                      have hO5 := hO4.below hd5
                      have hP5 := ho5.below hal5
                      have hD5 := Box3.new w5 (.int .i64 m.f) (.int .i64 m.t) (.slice A3 (cutOf m.b ox).length c3)
                      obtain ⟨⟨_, _, q2, q3, _⟩, _⟩ := (hB4.below hd5).bx
                      obtain ⟨⟨_, _, r2⟩, _, _, _⟩ := hC5.bx
                      obtain ⟨⟨_, _, t2⟩, _, _, _⟩ := hD5.bx
                      have s2 := hO5.str
                      have s3 := hP5.str
                      clear hM4 hB4 hBL4 hb5 hal5 hd5 ho5 hC4 hC5 hD5 hO4 hO5 hP5
                      go_wp2_with (go_at_call 17; refine (begins_calls _ m.b (cutOf m.b ox) HPF.out).mono ?_; rintro e w7 ⟨rfl, rfl⟩)
                      clear q2 q3 r2 t2 s2 s3
                      refine (once_made hM5).mono ?_
                      rintro e w9 ⟨rfl, hb9⟩
                      have HI9 := Lib.hid (show InvO w w9 pb _ _ _ _ _ (i + 1) from ⟨(hM5.below hb9).less (fun b hb => .inl (.inl (.inl hb))), hBL5.trans (hb9.mono hBL5.size), by have := HIr.out.len; rw [trimAt_length]; omega, HIr.out.keep.cut _ _, HIr.out.bnd.trim _ _⟩)
                      have hsl := trimAt_length All ((j : Int) + 1) ox
                      clear hM5 hBL5 hb9
                      have hL := HL.out
                      go_wp2
                      go_roundg (n - (i + 1))
                      case measure => have := HQ.out; omega
                      case rel => exact ⟨i + 1, _, _, _, by omega, by go_num, rfl, HI9⟩
                    · have HX4 := Lib.hid (show under (trimAt All ((j : Int) + 1) ox) ((j : Int) + 1) = some ⟨m.f, m.t, cutOf m.b ox, m.s⟩ by rw [under_trimmed ox HX.out, if_neg hcx])
                      have HBB := Lib.hid (Nat.le_trans (cutOf_le m.b ox) HML.out)
                      have HPF := Lib.hid (show cutOf m.b ox <+: m.b from List.take_prefix _ _)
                      have zx : decide (0 < ox) = true := decide_eq_true (by omega)
                      have zl : decide (0 < (m.b.length : Int)) = true := decide_eq_true (by omega)
                      have zl2 : decide (0 < m.b.length) = true := decide_eq_true (by omega)
                      have zl3 : 0 < m.b.length := by omega
                      have zc2 : decide (m.b.length ≤ (cutOf m.b ox).length) = false := decide_eq_false (by unfold cutOf; rw [List.length_take]; omega)
                      have zc : decide ((m.b.length : Int) ≤ ((cutOf m.b ox).length : Int)) = false := decide_eq_false (by unfold cutOf; rw [List.length_take]; omega)
                      clear hcx hcl
                      go_wp2_with fail
                      have hM1 := HM1.out
                      have hB1 := HB1.out
                      have hBL1 := HBL1.out
                      have hS1 := HS1.out
                      clear cl4 cl5 fz5
                      generalize wr.alloc (.cells #[.int .i64 6, .bool os, .int .i64 ((j : Int) + 1), .int .i64 ox, .int .i64 oy, .slice bA ob.length bc] 28) = W1 at *
                      refine (once_look_some hM1 _ OK2.out HX.out HML.out).mono ?_
                      rintro e w2 ⟨A2, c2, rfl, ho2, hb2⟩
                      have hM2 := hM1.fence hb2
                      have hB2 := hB1.below hb2
                      have hBL2 := hBL1.trans (hb2.mono hBL1.size)
                      have hs2 := hb2.size
                      have hal2 := (Below.refl w2.heap.size w2).alloc (Nat.le_refl _) (.cells #[.int .i64 m.f, .int .i64 m.t, .slice A2 m.b.length c2] 31)
                      have hC := Box3.new w2 (.int .i64 m.f) (.int .i64 m.t) (.slice A2 m.b.length c2)
                      have hM3 := hM2.fence hal2
                      have hB3 := hB2.below hal2
                      have hBL3 := hBL2.trans (hal2.mono hBL2.size)
                      have hO3 := ho2.below hal2
                      have hs3 : (w2.alloc (.cells #[.int .i64 m.f, .int .i64 m.t, .slice A2 m.b.length c2] 31)).heap.size = w2.heap.size + 1 := by simp
                      obtain ⟨⟨_, _, q2, q3, _⟩, _⟩ := hB3.bx
                      clear hM1 hM2 hB1 hB2 hBL1 hBL2 hb2 hal2 ho2
                      go_wp2_with fail
                      generalize w2.alloc (.cells #[.int .i64 m.f, .int .i64 m.t, .slice A2 m.b.length c2] 31) = W3 at *
                      clear q2 q3
                      refine (once_trim hM3 _ OK2.out ox OK3.out HX.out HML.out (by have := HLN.out; omega)).mono ?_
                      rintro e w4 ⟨rfl, hM4, ht4⟩
                      have hB4 := hB3.turn ht4 (fun h => h (.inl (.inl (.inr ⟨Nat.le_refl _, by omega⟩))))
                      have hC4 := hC.turn ht4 (fun h => h (.inr ⟨Nat.le_refl _, by omega⟩))
                      have hO4 := hO3.turn ht4 (fun b hb h => h (.inl (.inr hb)))
                      have hBL4 := ht4.exBelow (fun b hb => .inl (.inl (.inl hb))) hBL3
                      obtain ⟨⟨_, _, q2, q3, _⟩, _⟩ := hB4.bx
                      clear hM3 hB3 hBL3 ht4 hC hO3
                      go_wp2_with fail
                      clear q2 q3
                      refine (once_look_some hM4 _ OK2.out HX4.out HBB.out).mono ?_
                      rintro e w5 ⟨A3, c3, rfl, ho5, hb5⟩
                      have hal5 := (Below.refl w5.heap.size w5).alloc (Nat.le_refl _) (.cells #[.int .i64 m.f, .int .i64 m.t, .slice A3 (cutOf m.b ox).length c3] 31)
                      have hd5 := hb5.trans (hal5.mono hb5.size)
                      have hM5 := hM4.below hd5
                      have hBL5 := hBL4.trans (hd5.mono hBL4.size)
                      have hC5 := hC4.below hd5
                      have hO5 := hO4.below hd5
                      have hP5 := ho5.below hal5
                      have hD5 := Box3.new w5 (.int .i64 m.f) (.int .i64 m.t) (.slice A3 (cutOf m.b ox).length c3)
                      obtain ⟨⟨_, _, q2, q3, _⟩, _⟩ := (hB4.below hd5).bx
                      obtain ⟨⟨_, _, r2⟩, _, _, _⟩ := hC5.bx
                      obtain ⟨⟨_, _, t2⟩, _, _, _⟩ := hD5.bx
                      have s2 := hO5.str
                      have s3 := hP5.str
                      clear hM4 hB4 hBL4 hb5 hal5 hd5 ho5 hC4 hC5 hD5 hO4 hO5 hP5
                      go_wp2_with (go_at_call 17; refine (begins_calls _ m.b (cutOf m.b ox) HPF.out).mono ?_; rintro e w7 ⟨rfl, rfl⟩)
                      clear q2 q3 r2 t2 s2 s3
                      refine (once_made hM5).mono ?_
                      rintro e w9 ⟨rfl, hb9⟩
                      have HI9 := Lib.hid (show InvO w w9 pb _ _ _ _ _ (i + 1) from ⟨(hM5.below hb9).less (fun b hb => .inl (.inl (.inl hb))), hBL5.trans (hb9.mono hBL5.size), by have := HIr.out.len; rw [trimAt_length]; omega, HIr.out.keep.cut _ _, HIr.out.bnd.trim _ _⟩)
                      have hsl := trimAt_length All ((j : Int) + 1) ox
                      clear hM5 hBL5 hb9
                      have hL := HL.out
                      go_wp2
                      go_roundg (n - (i + 1))
                      case measure => have := HQ.out; omega
                      case rel => exact ⟨i + 1, _, _, _, by omega, by go_num, rfl, HI9⟩
                · skip
                  as_aux_lemma =>
                    have e1 : (ok == 1) = false := by simpa using hk1
                    have e3 : (ok == 3) = false := by simpa using hk3
                    have e4 : (ok == 4) = false := by simpa using hk4
                    have e5 : (ok == 5) = false := by simpa using hk5
                    have e6 : (ok == 6) = false := by simpa using hk6
                    clear hk1 hk3 hk4 hk5 hk6
                    go_wp2_with fail
                    have hM1 := HM1.out
                    have hB1 := HB1.out
                    have hBL1 := HBL1.out
                    have hS1 := HS1.out
                    clear cl4 cl5 fz5
                    generalize wr.alloc (.cells #[.int .i64 ok, .bool os, .int .i64 ((j : Int) + 1), .int .i64 ox, .int .i64 oy, .slice bA ob.length bc] 28) = W1 at *
                    refine (once_made hM1).mono ?_
                    rintro e w9 ⟨rfl, hb9⟩
                    have HI9 := Lib.hid (show InvO w w9 pb _ _ _ _ _ (i + 1) from ⟨((hM1).below hb9).less (fun b hb => .inl hb), hBL1.trans (hb9.mono hBL1.size), by have := HIr.out.len; omega, HIr.out.keep, HIr.out.bnd⟩)
                    clear hM1 hBL1 hb9 hB1
                    have hL := HL.out
                    go_wp2
                    go_roundg (n - (i + 1))
                    case measure => have := HQ.out; omega
                    case rel => exact ⟨i + 1, _, _, _, by omega, by go_num, rfl, HI9⟩
      | none =>
        rcases HIr.out.keep.away HX.out with hc | hc | ⟨j, rfl, hj, hs5⟩
        · have z1 : ¬ (1 : Int) ≤ on := by omega
          have z3 : decide ((1 : Int) ≤ on) = false := decide_eq_false z1
          clear hc
          by_cases hk1 : ok = 1
          · as_aux_lemma =>
              subst hk1
              have hM1 := HM1.out
              have hB1 := HB1.out
              have hBL1 := HBL1.out
              have hS1 := HS1.out
              have hAL := HAL.out
              clear HM1 HB1 HBL1 HS1 HAL
              obtain ⟨W1, hW1⟩ : ∃ W1, wr.alloc (.cells #[.int .i64 1, .bool os, .int .i64 on, .int .i64 ox, .int .i64 oy, .slice bA ob.length bc] 28) = W1 := ⟨_, rfl⟩
              rw [hW1] at hM1 hB1 hBL1 hS1 hAL
              obtain ⟨⟨q0, q1, q2, q3, q4, q5⟩, _⟩ := hB1.bx
              have HM1 := Lib.hid hM1
              have HB1 := Lib.hid hB1
              have HBL1 := Lib.hid hBL1
              have HS1 := Lib.hid hS1
              have HAL := Lib.hid hAL
              clear hM1 hB1 hBL1 hS1 hAL
              obtain ⟨v4', w3, hr4, hM3, ht3⟩ := HM1.out.push4 ob 46 (by have h1 := HL.out.1; have := HLN.out; omega)
              obtain ⟨v5', w4, hr5, hM4, ht4⟩ := hM3.push5 false 47 (by have h1 := HL.out.2; have := HLN.out; omega)
              have hs1 := HS1.out
              have hB4 := (HB1.out.turn ht3 (fun h => h (.inr ⟨Nat.le_refl _, by omega⟩))).turn ht4 (fun h => h (.inr ⟨Nat.le_refl _, by omega⟩))
              have hBL4 := ht4.exBelow (fun b hb => .inl hb) (ht3.exBelow (fun b hb => .inl hb) HBL1.out)
              have hV1 := HBY.out.below HAL.out
              have s1 := hV1.str
              have hV4 := (hV1.turn ht3 (fun b hb h => h (.inl hb))).turn ht4 (fun b hb h => h (.inl hb))
              have hkp := HIr.out.keep.snoc ox oy (List.prefix_rfl (l := ob))
              obtain ⟨A4', c4', A5', c5', e4, e5, _, _⟩ := hM4.shape
              rw [show (FS ++ [ob]).length = All.length + 1 by rw [List.length_append, HL.out.1]; rfl] at e4
              rw [show (SP ++ [false]).length = All.length + 1 by rw [List.length_append, HL.out.2]; rfl] at e5
              subst e4 e5
              have HR4 := Lib.hid hr4
              have HR5 := Lib.hid hr5
              have HKP := Lib.hid hkp
              obtain ⟨v', w5, hr, ho5, hb5⟩ := fresh_append w4.drew 26 (hV4.below (Below.drew (Below.refl _ _))) OK6.out
              obtain ⟨A', c', rfl⟩ := ho5.bys.shape
              have hb5' : Below w4.heap.size w4 w5 := (Below.drew (Below.refl w4.heap.size w4)).trans hb5
              have HR := Lib.hid (show (Builtin.append_ #[26, 26] 26 #[.slice (some ⟨w4.heap.size, 0, none⟩) 0 0, .slice bA ob.length bc]).run Try.prog (w4.alloc (.cells #[] 5)).drew = .ok (.slice A' ob.length c') w5 from hr)
              have HQ1 := Lib.hid hB4.bx.1.2.2.2
              have HQ2 := Lib.hid (Box6.bx (show Box6 (w4.alloc (.cells #[] 5)).drew _ _ _ _ _ _ _ from hB4.below (Below.drew ((Below.refl _ _).alloc (Nat.le_refl _) _)))).1.2.2.2
              have HQ3 := Lib.hid (hB4.below hb5').bx.1.2.2.2
              have HB5 := Lib.hid (hB4.below hb5')
              have HM5 := Lib.hid (hM4.below hb5')
              have HBL5 := Lib.hid (hBL4.trans (hb5'.mono hBL4.size))
              have HO5 := Lib.hid ho5.bys
              have HWS := Lib.hid hs1
              clear hr4 hr5 hM3 hM4 ht3 ht4 hB4 hBL4 hV1 hV4 hkp hr ho5 hb5 hb5' hs1
              go_wp2_with (first | (at_builtin; (refine wpList_append_run rfl _ _ _ rfl rfl rfl HR4.out ?_)) | (at_builtin; (refine wpList_append_run rfl _ _ _ rfl rfl rfl HR5.out ?_)))
              clear s1 q0 q1 q2 q3 q4 q5
              go_region_held3 (fun w' => w'.cell? ⟨wr.heap.size, 3, none⟩ = some (.int .i64 ox) ∧ w'.cell? ⟨wr.heap.size, 4, none⟩ = some (.int .i64 oy) ∧ w'.cell? ⟨wr.heap.size, 5, none⟩ = some (.slice bA ob.length bc))
                (first | with_reducible exact HQ4.out | with_reducible exact HQ3.out | with_reducible exact HQ2.out | exact HQ1.out)
                (first
                  | (go_at_call 9; (refine (once_put HM5.out ox oy HO5.out OK6.out (by have := HLN.out; omega)).mono ?_); rintro e w6 ⟨rfl, hm6, ht6⟩; have HQ4 := Lib.hid (HB5.out.turn ht6 (fun h => h (.inr ⟨Nat.le_refl _, by have := HWS.out; omega⟩))).bx.1.2.2.2; have HM6 := Lib.hid hm6; have HBL6 := Lib.hid (ht6.exBelow (fun b hb => .inl hb) HBL5.out); clear hm6 ht6)
                  | (refine step_append_run (by rfl) _ _ _ (by rfl) (by rfl) (by rfl) HR.out ?_))
              have hL := HL.out
              have hll : (All ++ [(⟨ox, oy, ob, false⟩ : Md)]).length = All.length + 1 := by simp
              go_wp2_with fail
              refine (once_made HM6.out).mono ?_
              rintro e w9 ⟨rfl, hb9⟩
              have HI9 := Lib.hid (show InvO w w9 pb _ _ _ _ _ (i + 1) from ⟨((HM6.out).below hb9).less (fun b hb => .inl hb), HBL6.out.trans (hb9.mono HBL6.out.size), by have := HIr.out.len; rw [hll]; omega, HKP.out, (HIr.out.bnd.snoc (m := ⟨ox, oy, ob, false⟩) OK6.out)⟩)
              clear hb9
              go_wp2
              go_roundg (n - (i + 1))
              case measure => have := HQ.out; omega
              case rel => exact ⟨i + 1, _, _, _, by omega, by go_num, rfl, HI9⟩
          · skip
            by_cases hk3 : ok = 3
            · as_aux_lemma =>
                subst hk3
                go_wp2_with fail
                have hM1 := HM1.out
                have hB1 := HB1.out
                have hBL1 := HBL1.out
                have hS1 := HS1.out
                generalize wr.alloc (.cells #[.int .i64 3, .bool os, .int .i64 on, .int .i64 ox, .int .i64 oy, .slice bA ob.length bc] 28) = W1 at *
                refine (once_take_none hM1 _ OK2.out HX.out).mono ?_
                rintro e w2 ⟨A2, c2, rfl, ho2, hM2, ht2⟩
                have HBL2 := Lib.hid (ht2.exBelow (fun b hb => .inl hb) hBL1)
                have HM2 := Lib.hid hM2
                clear hM1 hM2 ht2 hB1 hBL1 ho2
                go_wp2_with fail
                go_quiet (fail)
                go_wp2_with fail
                have hd : Below w2.heap.size w2 ((w2.alloc (.cells #[.int .i64 0, .int .i64 0, .slice A2 0 c2] 31)).drewN nq) := ((Below.refl w2.heap.size w2).alloc (Nat.le_refl _) (.cells #[.int .i64 0, .int .i64 0, .slice A2 0 c2] 31)).trans ⟨rfl, rfl, rfl, Nat.le_refl _, fun _ _ => rfl⟩
                have hM3 := HM2.out.below hd
                have hBL3 := HBL2.out.trans (hd.mono HBL2.out.size)
                clear hd
                refine (once_made hM3).mono ?_
                rintro e w9 ⟨rfl, hb9⟩
                have HI9 := Lib.hid (show InvO w w9 pb _ _ _ _ _ (i + 1) from ⟨((hM3).below hb9).less (fun b hb => .inl hb), hBL3.trans (hb9.mono hBL3.size), by have := HIr.out.len; omega, HIr.out.keep, HIr.out.bnd⟩)
                clear hM3 hBL3 hb9
                have hL := HL.out
                go_wp2
                go_roundg (n - (i + 1))
                case measure => have := HQ.out; omega
                case rel => exact ⟨i + 1, _, _, _, by omega, by go_num, rfl, HI9⟩
            · skip
              by_cases hk4 : ok = 4
              · as_aux_lemma =>
                  subst hk4
                  go_wp2_with fail
                  have hM1 := HM1.out
                  have hB1 := HB1.out
                  have hBL1 := HBL1.out
                  have hS1 := HS1.out
                  generalize wr.alloc (.cells #[.int .i64 4, .bool os, .int .i64 on, .int .i64 ox, .int .i64 oy, .slice bA ob.length bc] 28) = W1 at *
                  refine (once_drop_none hM1 _ OK2.out HX.out).mono ?_
                  rintro e w2 ⟨rfl, hM2, ht2⟩
                  have hBL2 := ht2.exBelow (fun b hb => .inl hb) hBL1
                  clear hM1 ht2 hB1 hBL1
                  go_wp2_with fail
                  refine (once_made hM2).mono ?_
                  rintro e w9 ⟨rfl, hb9⟩
                  have HI9 := Lib.hid (show InvO w w9 pb _ _ _ _ _ (i + 1) from ⟨((hM2).below hb9).less (fun b hb => .inl hb), hBL2.trans (hb9.mono hBL2.size), by have := HIr.out.len; omega, HIr.out.keep, HIr.out.bnd⟩)
                  clear hM2 hBL2 hb9
                  have hL := HL.out
                  go_wp2
                  go_roundg (n - (i + 1))
                  case measure => have := HQ.out; omega
                  case rel => exact ⟨i + 1, _, _, _, by omega, by go_num, rfl, HI9⟩
              · skip
                by_cases hk5 : ok = 5
                · as_aux_lemma =>
                    subst hk5
                    go_wp2_with fail
                    have hM1 := HM1.out
                    have hB1 := HB1.out
                    have hBL1 := HBL1.out
                    have hS1 := HS1.out
                    generalize wr.alloc (.cells #[.int .i64 5, .bool os, .int .i64 on, .int .i64 ox, .int .i64 oy, .slice bA ob.length bc] 28) = W1 at *
                    refine (once_copy0 hM1 _ OK2.out HX.out).mono ?_
                    rintro e w2 ⟨rfl, hb2⟩
                    have hM2 := hM1.below hb2
                    have hBL2 := hBL1.trans (hb2.mono hBL1.size)
                    clear hM1 hb2 hB1 hBL1
                    go_wp2_with fail
                    refine (once_made hM2).mono ?_
                    rintro e w9 ⟨rfl, hb9⟩
                    have HI9 := Lib.hid (show InvO w w9 pb _ _ _ _ _ (i + 1) from ⟨((hM2).below hb9).less (fun b hb => .inl hb), hBL2.trans (hb9.mono hBL2.size), by have := HIr.out.len; omega, HIr.out.keep, HIr.out.bnd⟩)
                    clear hM2 hBL2 hb9
                    have hL := HL.out
                    go_wp2
                    go_roundg (n - (i + 1))
                    case measure => have := HQ.out; omega
                    case rel => exact ⟨i + 1, _, _, _, by omega, by go_num, rfl, HI9⟩
                · skip
                  by_cases hk6 : ok = 6
                  · as_aux_lemma =>
                      subst hk6
                      go_wp2_with fail
                      have hM1 := HM1.out
                      have hB1 := HB1.out
                      have hBL1 := HBL1.out
                      have hS1 := HS1.out
                      generalize wr.alloc (.cells #[.int .i64 6, .bool os, .int .i64 on, .int .i64 ox, .int .i64 oy, .slice bA ob.length bc] 28) = W1 at *
                      refine (once_look_none hM1 _ OK2.out HX.out).mono ?_
                      rintro e w2 ⟨A2, c2, rfl, ho2, hb2⟩
                      have hal2 := (Below.refl w2.heap.size w2).alloc (Nat.le_refl _) (.cells #[.int .i64 0, .int .i64 0, .slice A2 0 c2] 31)
                      have hd2 := hb2.trans (hal2.mono hb2.size)
                      have hM2 := hM1.below hd2
                      have hB2 := hB1.below hd2
                      have hBL2 := hBL1.trans (hd2.mono hBL1.size)
                      obtain ⟨⟨_, _, q2, q3, _⟩, _⟩ := hB2.bx
                      clear hM1 hB1 hBL1 hb2 hal2 hd2 ho2
                      go_wp2_with fail
                      generalize w2.alloc (.cells #[.int .i64 0, .int .i64 0, .slice A2 0 c2] 31) = W3 at *
                      clear q2 q3
                      refine (once_trim hM2 _ OK2.out ox OK3.out HX.out (Nat.zero_le _) (by have := HLN.out; omega)).mono ?_
                      rintro e w4 ⟨rfl, hM4, ht4⟩
                      rw [trimAt_none ox HX.out] at hM4
                      have hB4 := hB2.turn ht4 (fun h => h (.inr ⟨Nat.le_refl _, by omega⟩))
                      have hBL4 := ht4.exBelow (fun b hb => .inl hb) hBL2
                      obtain ⟨⟨_, _, q2, q3, _⟩, _⟩ := hB4.bx
                      clear hM2 hB2 hBL2 ht4
                      go_wp2_with fail
                      refine (once_look_none hM4 _ OK2.out HX.out).mono ?_
                      rintro e w5 ⟨A3, c3, rfl, ho5, hb5⟩
                      have hal5 := (Below.refl w5.heap.size w5).alloc (Nat.le_refl _) (.cells #[.int .i64 0, .int .i64 0, .slice A3 0 c3] 31)
                      have hd5 := hb5.trans (hal5.mono hb5.size)
                      have hM5 := hM4.below hd5
                      have hBL5 := hBL4.trans (hd5.mono hBL4.size)
                      clear hM4 hB4 hBL4 hb5 hal5 hd5 ho5 q2 q3
                      go_wp2_with fail
                      refine (once_made hM5).mono ?_
                      rintro e w9 ⟨rfl, hb9⟩
                      have HI9 := Lib.hid (show InvO w w9 pb _ _ _ _ _ (i + 1) from ⟨((hM5).below hb9).less (fun b hb => .inl hb), hBL5.trans (hb9.mono hBL5.size), by have := HIr.out.len; omega, HIr.out.keep, HIr.out.bnd⟩)
                      clear hM5 hBL5 hb9
                      have hL := HL.out
                      go_wp2
                      go_roundg (n - (i + 1))
                      case measure => have := HQ.out; omega
                      case rel => exact ⟨i + 1, _, _, _, by omega, by go_num, rfl, HI9⟩
                  · skip
                    as_aux_lemma =>
                      have e1 : (ok == 1) = false := by simpa using hk1
                      have e3 : (ok == 3) = false := by simpa using hk3
                      have e4 : (ok == 4) = false := by simpa using hk4
                      have e5 : (ok == 5) = false := by simpa using hk5
                      have e6 : (ok == 6) = false := by simpa using hk6
                      clear hk1 hk3 hk4 hk5 hk6
                      go_wp2_with fail
                      have hM1 := HM1.out
                      have hB1 := HB1.out
                      have hBL1 := HBL1.out
                      have hS1 := HS1.out
                      generalize wr.alloc (.cells #[.int .i64 ok, .bool os, .int .i64 on, .int .i64 ox, .int .i64 oy, .slice bA ob.length bc] 28) = W1 at *
                      refine (once_made hM1).mono ?_
                      rintro e w9 ⟨rfl, hb9⟩
                      have HI9 := Lib.hid (show InvO w w9 pb _ _ _ _ _ (i + 1) from ⟨((hM1).below hb9).less (fun b hb => .inl hb), hBL1.trans (hb9.mono hBL1.size), by have := HIr.out.len; omega, HIr.out.keep, HIr.out.bnd⟩)
                      clear hM1 hBL1 hb9 hB1
                      have hL := HL.out
                      go_wp2
                      go_roundg (n - (i + 1))
                      case measure => have := HQ.out; omega
                      case rel => exact ⟨i + 1, _, _, _, by omega, by go_num, rfl, HI9⟩
        · have hll := HL.out.1
          have z1 : (1 : Int) ≤ on := by omega
          have z2 : ¬ on ≤ (All.length : Int) := by omega
          have z3 : decide ((1 : Int) ≤ on) = true := decide_eq_true z1
          have z4 : decide (on ≤ (All.length : Int)) = false := decide_eq_false z2
          clear hc hll
          by_cases hk1 : ok = 1
          · as_aux_lemma =>
              subst hk1
              have hM1 := HM1.out
              have hB1 := HB1.out
              have hBL1 := HBL1.out
              have hS1 := HS1.out
              have hAL := HAL.out
              clear HM1 HB1 HBL1 HS1 HAL
              obtain ⟨W1, hW1⟩ : ∃ W1, wr.alloc (.cells #[.int .i64 1, .bool os, .int .i64 on, .int .i64 ox, .int .i64 oy, .slice bA ob.length bc] 28) = W1 := ⟨_, rfl⟩
              rw [hW1] at hM1 hB1 hBL1 hS1 hAL
              obtain ⟨⟨q0, q1, q2, q3, q4, q5⟩, _⟩ := hB1.bx
              have HM1 := Lib.hid hM1
              have HB1 := Lib.hid hB1
              have HBL1 := Lib.hid hBL1
              have HS1 := Lib.hid hS1
              have HAL := Lib.hid hAL
              clear hM1 hB1 hBL1 hS1 hAL
              obtain ⟨v4', w3, hr4, hM3, ht3⟩ := HM1.out.push4 ob 46 (by have h1 := HL.out.1; have := HLN.out; omega)
              obtain ⟨v5', w4, hr5, hM4, ht4⟩ := hM3.push5 false 47 (by have h1 := HL.out.2; have := HLN.out; omega)
              have hs1 := HS1.out
              have hB4 := (HB1.out.turn ht3 (fun h => h (.inr ⟨Nat.le_refl _, by omega⟩))).turn ht4 (fun h => h (.inr ⟨Nat.le_refl _, by omega⟩))
              have hBL4 := ht4.exBelow (fun b hb => .inl hb) (ht3.exBelow (fun b hb => .inl hb) HBL1.out)
              have hV1 := HBY.out.below HAL.out
              have s1 := hV1.str
              have hV4 := (hV1.turn ht3 (fun b hb h => h (.inl hb))).turn ht4 (fun b hb h => h (.inl hb))
              have hkp := HIr.out.keep.snoc ox oy (List.prefix_rfl (l := ob))
              obtain ⟨A4', c4', A5', c5', e4, e5, _, _⟩ := hM4.shape
              rw [show (FS ++ [ob]).length = All.length + 1 by rw [List.length_append, HL.out.1]; rfl] at e4
              rw [show (SP ++ [false]).length = All.length + 1 by rw [List.length_append, HL.out.2]; rfl] at e5
              subst e4 e5
              have HR4 := Lib.hid hr4
              have HR5 := Lib.hid hr5
              have HKP := Lib.hid hkp
              obtain ⟨v', w5, hr, ho5, hb5⟩ := fresh_append w4.drew 26 (hV4.below (Below.drew (Below.refl _ _))) OK6.out
              obtain ⟨A', c', rfl⟩ := ho5.bys.shape
              have hb5' : Below w4.heap.size w4 w5 := (Below.drew (Below.refl w4.heap.size w4)).trans hb5
              have HR := Lib.hid (show (Builtin.append_ #[26, 26] 26 #[.slice (some ⟨w4.heap.size, 0, none⟩) 0 0, .slice bA ob.length bc]).run Try.prog (w4.alloc (.cells #[] 5)).drew = .ok (.slice A' ob.length c') w5 from hr)
              have HQ1 := Lib.hid hB4.bx.1.2.2.2
              have HQ2 := Lib.hid (Box6.bx (show Box6 (w4.alloc (.cells #[] 5)).drew _ _ _ _ _ _ _ from hB4.below (Below.drew ((Below.refl _ _).alloc (Nat.le_refl _) _)))).1.2.2.2
              have HQ3 := Lib.hid (hB4.below hb5').bx.1.2.2.2
              have HB5 := Lib.hid (hB4.below hb5')
              have HM5 := Lib.hid (hM4.below hb5')
              have HBL5 := Lib.hid (hBL4.trans (hb5'.mono hBL4.size))
              have HO5 := Lib.hid ho5.bys
              have HWS := Lib.hid hs1
              clear hr4 hr5 hM3 hM4 ht3 ht4 hB4 hBL4 hV1 hV4 hkp hr ho5 hb5 hb5' hs1
              go_wp2_with (first | (at_builtin; (refine wpList_append_run rfl _ _ _ rfl rfl rfl HR4.out ?_)) | (at_builtin; (refine wpList_append_run rfl _ _ _ rfl rfl rfl HR5.out ?_)))
              clear s1 q0 q1 q2 q3 q4 q5
              go_region_held3 (fun w' => w'.cell? ⟨wr.heap.size, 3, none⟩ = some (.int .i64 ox) ∧ w'.cell? ⟨wr.heap.size, 4, none⟩ = some (.int .i64 oy) ∧ w'.cell? ⟨wr.heap.size, 5, none⟩ = some (.slice bA ob.length bc))
                (first | with_reducible exact HQ4.out | with_reducible exact HQ3.out | with_reducible exact HQ2.out | exact HQ1.out)
                (first
                  | (go_at_call 9; (refine (once_put HM5.out ox oy HO5.out OK6.out (by have := HLN.out; omega)).mono ?_); rintro e w6 ⟨rfl, hm6, ht6⟩; have HQ4 := Lib.hid (HB5.out.turn ht6 (fun h => h (.inr ⟨Nat.le_refl _, by have := HWS.out; omega⟩))).bx.1.2.2.2; have HM6 := Lib.hid hm6; have HBL6 := Lib.hid (ht6.exBelow (fun b hb => .inl hb) HBL5.out); clear hm6 ht6)
                  | (refine step_append_run (by rfl) _ _ _ (by rfl) (by rfl) (by rfl) HR.out ?_))
              have hL := HL.out
              have hll : (All ++ [(⟨ox, oy, ob, false⟩ : Md)]).length = All.length + 1 := by simp
              go_wp2_with fail
              refine (once_made HM6.out).mono ?_
              rintro e w9 ⟨rfl, hb9⟩
              have HI9 := Lib.hid (show InvO w w9 pb _ _ _ _ _ (i + 1) from ⟨((HM6.out).below hb9).less (fun b hb => .inl hb), HBL6.out.trans (hb9.mono HBL6.out.size), by have := HIr.out.len; rw [hll]; omega, HKP.out, (HIr.out.bnd.snoc (m := ⟨ox, oy, ob, false⟩) OK6.out)⟩)
              clear hb9
              go_wp2
              go_roundg (n - (i + 1))
              case measure => have := HQ.out; omega
              case rel => exact ⟨i + 1, _, _, _, by omega, by go_num, rfl, HI9⟩
          · skip
            by_cases hk3 : ok = 3
            · as_aux_lemma =>
                subst hk3
                go_wp2_with fail
                have hM1 := HM1.out
                have hB1 := HB1.out
                have hBL1 := HBL1.out
                have hS1 := HS1.out
                generalize wr.alloc (.cells #[.int .i64 3, .bool os, .int .i64 on, .int .i64 ox, .int .i64 oy, .slice bA ob.length bc] 28) = W1 at *
                refine (once_take_none hM1 _ OK2.out HX.out).mono ?_
                rintro e w2 ⟨A2, c2, rfl, ho2, hM2, ht2⟩
                have HBL2 := Lib.hid (ht2.exBelow (fun b hb => .inl hb) hBL1)
                have HM2 := Lib.hid hM2
                clear hM1 hM2 ht2 hB1 hBL1 ho2
                go_wp2_with fail
                go_quiet (fail)
                go_wp2_with fail
                have hd : Below w2.heap.size w2 ((w2.alloc (.cells #[.int .i64 0, .int .i64 0, .slice A2 0 c2] 31)).drewN nq) := ((Below.refl w2.heap.size w2).alloc (Nat.le_refl _) (.cells #[.int .i64 0, .int .i64 0, .slice A2 0 c2] 31)).trans ⟨rfl, rfl, rfl, Nat.le_refl _, fun _ _ => rfl⟩
                have hM3 := HM2.out.below hd
                have hBL3 := HBL2.out.trans (hd.mono HBL2.out.size)
                clear hd
                refine (once_made hM3).mono ?_
                rintro e w9 ⟨rfl, hb9⟩
                have HI9 := Lib.hid (show InvO w w9 pb _ _ _ _ _ (i + 1) from ⟨((hM3).below hb9).less (fun b hb => .inl hb), hBL3.trans (hb9.mono hBL3.size), by have := HIr.out.len; omega, HIr.out.keep, HIr.out.bnd⟩)
                clear hM3 hBL3 hb9
                have hL := HL.out
                go_wp2
                go_roundg (n - (i + 1))
                case measure => have := HQ.out; omega
                case rel => exact ⟨i + 1, _, _, _, by omega, by go_num, rfl, HI9⟩
            · skip
              by_cases hk4 : ok = 4
              · as_aux_lemma =>
                  subst hk4
                  go_wp2_with fail
                  have hM1 := HM1.out
                  have hB1 := HB1.out
                  have hBL1 := HBL1.out
                  have hS1 := HS1.out
                  generalize wr.alloc (.cells #[.int .i64 4, .bool os, .int .i64 on, .int .i64 ox, .int .i64 oy, .slice bA ob.length bc] 28) = W1 at *
                  refine (once_drop_none hM1 _ OK2.out HX.out).mono ?_
                  rintro e w2 ⟨rfl, hM2, ht2⟩
                  have hBL2 := ht2.exBelow (fun b hb => .inl hb) hBL1
                  clear hM1 ht2 hB1 hBL1
                  go_wp2_with fail
                  refine (once_made hM2).mono ?_
                  rintro e w9 ⟨rfl, hb9⟩
                  have HI9 := Lib.hid (show InvO w w9 pb _ _ _ _ _ (i + 1) from ⟨((hM2).below hb9).less (fun b hb => .inl hb), hBL2.trans (hb9.mono hBL2.size), by have := HIr.out.len; omega, HIr.out.keep, HIr.out.bnd⟩)
                  clear hM2 hBL2 hb9
                  have hL := HL.out
                  go_wp2
                  go_roundg (n - (i + 1))
                  case measure => have := HQ.out; omega
                  case rel => exact ⟨i + 1, _, _, _, by omega, by go_num, rfl, HI9⟩
              · skip
                by_cases hk5 : ok = 5
                · as_aux_lemma =>
                    subst hk5
                    go_wp2_with fail
                    have hM1 := HM1.out
                    have hB1 := HB1.out
                    have hBL1 := HBL1.out
                    have hS1 := HS1.out
                    generalize wr.alloc (.cells #[.int .i64 5, .bool os, .int .i64 on, .int .i64 ox, .int .i64 oy, .slice bA ob.length bc] 28) = W1 at *
                    refine (once_copy0 hM1 _ OK2.out HX.out).mono ?_
                    rintro e w2 ⟨rfl, hb2⟩
                    have hM2 := hM1.below hb2
                    have hBL2 := hBL1.trans (hb2.mono hBL1.size)
                    clear hM1 hb2 hB1 hBL1
                    go_wp2_with fail
                    refine (once_made hM2).mono ?_
                    rintro e w9 ⟨rfl, hb9⟩
                    have HI9 := Lib.hid (show InvO w w9 pb _ _ _ _ _ (i + 1) from ⟨((hM2).below hb9).less (fun b hb => .inl hb), hBL2.trans (hb9.mono hBL2.size), by have := HIr.out.len; omega, HIr.out.keep, HIr.out.bnd⟩)
                    clear hM2 hBL2 hb9
                    have hL := HL.out
                    go_wp2
                    go_roundg (n - (i + 1))
                    case measure => have := HQ.out; omega
                    case rel => exact ⟨i + 1, _, _, _, by omega, by go_num, rfl, HI9⟩
                · skip
                  by_cases hk6 : ok = 6
                  · as_aux_lemma =>
                      subst hk6
                      go_wp2_with fail
                      have hM1 := HM1.out
                      have hB1 := HB1.out
                      have hBL1 := HBL1.out
                      have hS1 := HS1.out
                      generalize wr.alloc (.cells #[.int .i64 6, .bool os, .int .i64 on, .int .i64 ox, .int .i64 oy, .slice bA ob.length bc] 28) = W1 at *
                      refine (once_look_none hM1 _ OK2.out HX.out).mono ?_
                      rintro e w2 ⟨A2, c2, rfl, ho2, hb2⟩
                      have hal2 := (Below.refl w2.heap.size w2).alloc (Nat.le_refl _) (.cells #[.int .i64 0, .int .i64 0, .slice A2 0 c2] 31)
                      have hd2 := hb2.trans (hal2.mono hb2.size)
                      have hM2 := hM1.below hd2
                      have hB2 := hB1.below hd2
                      have hBL2 := hBL1.trans (hd2.mono hBL1.size)
                      obtain ⟨⟨_, _, q2, q3, _⟩, _⟩ := hB2.bx
                      clear hM1 hB1 hBL1 hb2 hal2 hd2 ho2
                      go_wp2_with fail
                      generalize w2.alloc (.cells #[.int .i64 0, .int .i64 0, .slice A2 0 c2] 31) = W3 at *
                      clear q2 q3
                      refine (once_trim hM2 _ OK2.out ox OK3.out HX.out (Nat.zero_le _) (by have := HLN.out; omega)).mono ?_
                      rintro e w4 ⟨rfl, hM4, ht4⟩
                      rw [trimAt_none ox HX.out] at hM4
                      have hB4 := hB2.turn ht4 (fun h => h (.inr ⟨Nat.le_refl _, by omega⟩))
                      have hBL4 := ht4.exBelow (fun b hb => .inl hb) hBL2
                      obtain ⟨⟨_, _, q2, q3, _⟩, _⟩ := hB4.bx
                      clear hM2 hB2 hBL2 ht4
                      go_wp2_with fail
                      refine (once_look_none hM4 _ OK2.out HX.out).mono ?_
                      rintro e w5 ⟨A3, c3, rfl, ho5, hb5⟩
                      have hal5 := (Below.refl w5.heap.size w5).alloc (Nat.le_refl _) (.cells #[.int .i64 0, .int .i64 0, .slice A3 0 c3] 31)
                      have hd5 := hb5.trans (hal5.mono hb5.size)
                      have hM5 := hM4.below hd5
                      have hBL5 := hBL4.trans (hd5.mono hBL4.size)
                      clear hM4 hB4 hBL4 hb5 hal5 hd5 ho5 q2 q3
                      go_wp2_with fail
                      refine (once_made hM5).mono ?_
                      rintro e w9 ⟨rfl, hb9⟩
                      have HI9 := Lib.hid (show InvO w w9 pb _ _ _ _ _ (i + 1) from ⟨((hM5).below hb9).less (fun b hb => .inl hb), hBL5.trans (hb9.mono hBL5.size), by have := HIr.out.len; omega, HIr.out.keep, HIr.out.bnd⟩)
                      clear hM5 hBL5 hb9
                      have hL := HL.out
                      go_wp2
                      go_roundg (n - (i + 1))
                      case measure => have := HQ.out; omega
                      case rel => exact ⟨i + 1, _, _, _, by omega, by go_num, rfl, HI9⟩
                  · skip
                    as_aux_lemma =>
                      have e1 : (ok == 1) = false := by simpa using hk1
                      have e3 : (ok == 3) = false := by simpa using hk3
                      have e4 : (ok == 4) = false := by simpa using hk4
                      have e5 : (ok == 5) = false := by simpa using hk5
                      have e6 : (ok == 6) = false := by simpa using hk6
                      clear hk1 hk3 hk4 hk5 hk6
                      go_wp2_with fail
                      have hM1 := HM1.out
                      have hB1 := HB1.out
                      have hBL1 := HBL1.out
                      have hS1 := HS1.out
                      generalize wr.alloc (.cells #[.int .i64 ok, .bool os, .int .i64 on, .int .i64 ox, .int .i64 oy, .slice bA ob.length bc] 28) = W1 at *
                      refine (once_made hM1).mono ?_
                      rintro e w9 ⟨rfl, hb9⟩
                      have HI9 := Lib.hid (show InvO w w9 pb _ _ _ _ _ (i + 1) from ⟨((hM1).below hb9).less (fun b hb => .inl hb), hBL1.trans (hb9.mono hBL1.size), by have := HIr.out.len; omega, HIr.out.keep, HIr.out.bnd⟩)
                      clear hM1 hBL1 hb9 hB1
                      have hL := HL.out
                      go_wp2
                      go_roundg (n - (i + 1))
                      case measure => have := HQ.out; omega
                      case rel => exact ⟨i + 1, _, _, _, by omega, by go_num, rfl, HI9⟩
        · obtain ⟨g5, e5, cl5, fz5, _⟩ := HM1.out.cell5 hs5
          subst e5
          have z1 : (1 : Int) ≤ (j : Int) + 1 := by omega
          have z2 : (j : Int) + 1 ≤ (All.length : Int) := by omega
          have z3 : decide ((1 : Int) ≤ (j : Int) + 1) = true := decide_eq_true z1
          have z4 : decide ((j : Int) + 1 ≤ (All.length : Int)) = true := decide_eq_true z2
          have z5 : IntKind.i64.wrap (j : Int) = (j : Int) := by have := HLN.out; rw [IntKind.wrap_i64]; omega
          have z5' : wrap64 (j : Int) = (j : Int) := by have := HLN.out; unfold wrap64; omega
          have z9 : max ((j : Int) + 1) 1 = (j : Int) + 1 := by omega
          have z6 : (0 : Int) ≤ (j : Int) := by omega
          have z8 : (j : Int) < (All.length : Int) := by omega
          clear hs5 hj
          by_cases hk1 : ok = 1
          · as_aux_lemma =>
              subst hk1
              have hM1 := HM1.out
              have hB1 := HB1.out
              have hBL1 := HBL1.out
              have hS1 := HS1.out
              have hAL := HAL.out
              clear HM1 HB1 HBL1 HS1 HAL
              obtain ⟨W1, hW1⟩ : ∃ W1, wr.alloc (.cells #[.int .i64 1, .bool os, .int .i64 ((j : Int) + 1), .int .i64 ox, .int .i64 oy, .slice bA ob.length bc] 28) = W1 := ⟨_, rfl⟩
              rw [hW1] at hM1 hB1 hBL1 hS1 hAL
              rw [hW1] at cl5 fz5
              obtain ⟨⟨q0, q1, q2, q3, q4, q5⟩, _⟩ := hB1.bx
              have HM1 := Lib.hid hM1
              have HB1 := Lib.hid hB1
              have HBL1 := Lib.hid hBL1
              have HS1 := Lib.hid hS1
              have HAL := Lib.hid hAL
              clear hM1 hB1 hBL1 hS1 hAL
              obtain ⟨v4', w3, hr4, hM3, ht3⟩ := HM1.out.push4 ob 46 (by have h1 := HL.out.1; have := HLN.out; omega)
              obtain ⟨v5', w4, hr5, hM4, ht4⟩ := hM3.push5 false 47 (by have h1 := HL.out.2; have := HLN.out; omega)
              have hs1 := HS1.out
              have hB4 := (HB1.out.turn ht3 (fun h => h (.inr ⟨Nat.le_refl _, by omega⟩))).turn ht4 (fun h => h (.inr ⟨Nat.le_refl _, by omega⟩))
              have hBL4 := ht4.exBelow (fun b hb => .inl hb) (ht3.exBelow (fun b hb => .inl hb) HBL1.out)
              have hV1 := HBY.out.below HAL.out
              have s1 := hV1.str
              have hV4 := (hV1.turn ht3 (fun b hb h => h (.inl hb))).turn ht4 (fun b hb h => h (.inl hb))
              have hkp := HIr.out.keep.snoc ox oy (List.prefix_rfl (l := ob))
              obtain ⟨A4', c4', A5', c5', e4, e5, _, _⟩ := hM4.shape
              rw [show (FS ++ [ob]).length = All.length + 1 by rw [List.length_append, HL.out.1]; rfl] at e4
              rw [show (SP ++ [false]).length = All.length + 1 by rw [List.length_append, HL.out.2]; rfl] at e5
              subst e4 e5
              have HR4 := Lib.hid hr4
              have HR5 := Lib.hid hr5
              have HKP := Lib.hid hkp
              obtain ⟨v', w5, hr, ho5, hb5⟩ := fresh_append w4.drew 26 (hV4.below (Below.drew (Below.refl _ _))) OK6.out
              obtain ⟨A', c', rfl⟩ := ho5.bys.shape
              have hb5' : Below w4.heap.size w4 w5 := (Below.drew (Below.refl w4.heap.size w4)).trans hb5
              have HR := Lib.hid (show (Builtin.append_ #[26, 26] 26 #[.slice (some ⟨w4.heap.size, 0, none⟩) 0 0, .slice bA ob.length bc]).run Try.prog (w4.alloc (.cells #[] 5)).drew = .ok (.slice A' ob.length c') w5 from hr)
              have HQ1 := Lib.hid hB4.bx.1.2.2.2
              have HQ2 := Lib.hid (Box6.bx (show Box6 (w4.alloc (.cells #[] 5)).drew _ _ _ _ _ _ _ from hB4.below (Below.drew ((Below.refl _ _).alloc (Nat.le_refl _) _)))).1.2.2.2
              have HQ3 := Lib.hid (hB4.below hb5').bx.1.2.2.2
              have HB5 := Lib.hid (hB4.below hb5')
              have HM5 := Lib.hid (hM4.below hb5')
              have HBL5 := Lib.hid (hBL4.trans (hb5'.mono hBL4.size))
              have HO5 := Lib.hid ho5.bys
              have HWS := Lib.hid hs1
              clear hr4 hr5 hM3 hM4 ht3 ht4 hB4 hBL4 hV1 hV4 hkp hr ho5 hb5 hb5' hs1
              go_wp2_with (first | (at_builtin; (refine wpList_append_run rfl _ _ _ rfl rfl rfl HR4.out ?_)) | (at_builtin; (refine wpList_append_run rfl _ _ _ rfl rfl rfl HR5.out ?_)))
              clear s1 q0 q1 q2 q3 q4 q5 cl5 fz5
              go_region_held3 (fun w' => w'.cell? ⟨wr.heap.size, 3, none⟩ = some (.int .i64 ox) ∧ w'.cell? ⟨wr.heap.size, 4, none⟩ = some (.int .i64 oy) ∧ w'.cell? ⟨wr.heap.size, 5, none⟩ = some (.slice bA ob.length bc))
                (first | with_reducible exact HQ4.out | with_reducible exact HQ3.out | with_reducible exact HQ2.out | exact HQ1.out)
                (first
                  | (go_at_call 9; (refine (once_put HM5.out ox oy HO5.out OK6.out (by have := HLN.out; omega)).mono ?_); rintro e w6 ⟨rfl, hm6, ht6⟩; have HQ4 := Lib.hid (HB5.out.turn ht6 (fun h => h (.inr ⟨Nat.le_refl _, by have := HWS.out; omega⟩))).bx.1.2.2.2; have HM6 := Lib.hid hm6; have HBL6 := Lib.hid (ht6.exBelow (fun b hb => .inl hb) HBL5.out); clear hm6 ht6)
                  | (refine step_append_run (by rfl) _ _ _ (by rfl) (by rfl) (by rfl) HR.out ?_))
              have hL := HL.out
              have hll : (All ++ [(⟨ox, oy, ob, false⟩ : Md)]).length = All.length + 1 := by simp
              go_wp2_with fail
              refine (once_made HM6.out).mono ?_
              rintro e w9 ⟨rfl, hb9⟩
              have HI9 := Lib.hid (show InvO w w9 pb _ _ _ _ _ (i + 1) from ⟨((HM6.out).below hb9).less (fun b hb => .inl hb), HBL6.out.trans (hb9.mono HBL6.out.size), by have := HIr.out.len; rw [hll]; omega, HKP.out, (HIr.out.bnd.snoc (m := ⟨ox, oy, ob, false⟩) OK6.out)⟩)
              clear hb9
              go_wp2
              go_roundg (n - (i + 1))
              case measure => have := HQ.out; omega
              case rel => exact ⟨i + 1, _, _, _, by omega, by go_num, rfl, HI9⟩
          · skip
            by_cases hk3 : ok = 3
            · as_aux_lemma =>
                subst hk3
                go_wp2_with fail
                have hM1 := HM1.out
                have hB1 := HB1.out
                have hBL1 := HBL1.out
                have hS1 := HS1.out
                clear cl5 fz5
                generalize wr.alloc (.cells #[.int .i64 3, .bool os, .int .i64 ((j : Int) + 1), .int .i64 ox, .int .i64 oy, .slice bA ob.length bc] 28) = W1 at *
                refine (once_take_none hM1 _ OK2.out HX.out).mono ?_
                rintro e w2 ⟨A2, c2, rfl, ho2, hM2, ht2⟩
                have HBL2 := Lib.hid (ht2.exBelow (fun b hb => .inl hb) hBL1)
                have HM2 := Lib.hid hM2
                clear hM1 hM2 ht2 hB1 hBL1 ho2
                go_wp2_with fail
                go_quiet (fail)
                go_wp2_with fail
                have hd : Below w2.heap.size w2 ((w2.alloc (.cells #[.int .i64 0, .int .i64 0, .slice A2 0 c2] 31)).drewN nq) := ((Below.refl w2.heap.size w2).alloc (Nat.le_refl _) (.cells #[.int .i64 0, .int .i64 0, .slice A2 0 c2] 31)).trans ⟨rfl, rfl, rfl, Nat.le_refl _, fun _ _ => rfl⟩
                have hM3 := HM2.out.below hd
                have hBL3 := HBL2.out.trans (hd.mono HBL2.out.size)
                clear hd
                refine (once_made hM3).mono ?_
                rintro e w9 ⟨rfl, hb9⟩
                have HI9 := Lib.hid (show InvO w w9 pb _ _ _ _ _ (i + 1) from ⟨((hM3).below hb9).less (fun b hb => .inl hb), hBL3.trans (hb9.mono hBL3.size), by have := HIr.out.len; omega, HIr.out.keep, HIr.out.bnd⟩)
                clear hM3 hBL3 hb9
                have hL := HL.out
                go_wp2
                go_roundg (n - (i + 1))
                case measure => have := HQ.out; omega
                case rel => exact ⟨i + 1, _, _, _, by omega, by go_num, rfl, HI9⟩
            · skip
              by_cases hk4 : ok = 4
              · as_aux_lemma =>
                  subst hk4
                  go_wp2_with fail
                  have hM1 := HM1.out
                  have hB1 := HB1.out
                  have hBL1 := HBL1.out
                  have hS1 := HS1.out
                  clear cl5 fz5
                  generalize wr.alloc (.cells #[.int .i64 4, .bool os, .int .i64 ((j : Int) + 1), .int .i64 ox, .int .i64 oy, .slice bA ob.length bc] 28) = W1 at *
                  refine (once_drop_none hM1 _ OK2.out HX.out).mono ?_
                  rintro e w2 ⟨rfl, hM2, ht2⟩
                  have hBL2 := ht2.exBelow (fun b hb => .inl hb) hBL1
                  clear hM1 ht2 hB1 hBL1
                  go_wp2_with fail
                  refine (once_made hM2).mono ?_
                  rintro e w9 ⟨rfl, hb9⟩
                  have HI9 := Lib.hid (show InvO w w9 pb _ _ _ _ _ (i + 1) from ⟨((hM2).below hb9).less (fun b hb => .inl hb), hBL2.trans (hb9.mono hBL2.size), by have := HIr.out.len; omega, HIr.out.keep, HIr.out.bnd⟩)
                  clear hM2 hBL2 hb9
                  have hL := HL.out
                  go_wp2
                  go_roundg (n - (i + 1))
                  case measure => have := HQ.out; omega
                  case rel => exact ⟨i + 1, _, _, _, by omega, by go_num, rfl, HI9⟩
              · skip
                by_cases hk5 : ok = 5
                · as_aux_lemma =>
                    subst hk5
                    go_wp2_with fail
                    have hM1 := HM1.out
                    have hB1 := HB1.out
                    have hBL1 := HBL1.out
                    have hS1 := HS1.out
                    clear cl5 fz5
                    generalize wr.alloc (.cells #[.int .i64 5, .bool os, .int .i64 ((j : Int) + 1), .int .i64 ox, .int .i64 oy, .slice bA ob.length bc] 28) = W1 at *
                    refine (once_copy0 hM1 _ OK2.out HX.out).mono ?_
                    rintro e w2 ⟨rfl, hb2⟩
                    have hM2 := hM1.below hb2
                    have hBL2 := hBL1.trans (hb2.mono hBL1.size)
                    clear hM1 hb2 hB1 hBL1
                    go_wp2_with fail
                    refine (once_made hM2).mono ?_
                    rintro e w9 ⟨rfl, hb9⟩
                    have HI9 := Lib.hid (show InvO w w9 pb _ _ _ _ _ (i + 1) from ⟨((hM2).below hb9).less (fun b hb => .inl hb), hBL2.trans (hb9.mono hBL2.size), by have := HIr.out.len; omega, HIr.out.keep, HIr.out.bnd⟩)
                    clear hM2 hBL2 hb9
                    have hL := HL.out
                    go_wp2
                    go_roundg (n - (i + 1))
                    case measure => have := HQ.out; omega
                    case rel => exact ⟨i + 1, _, _, _, by omega, by go_num, rfl, HI9⟩
                · skip
                  by_cases hk6 : ok = 6
                  · as_aux_lemma =>
                      subst hk6
                      go_wp2_with fail
                      have hM1 := HM1.out
                      have hB1 := HB1.out
                      have hBL1 := HBL1.out
                      have hS1 := HS1.out
                      clear cl5 fz5
                      generalize wr.alloc (.cells #[.int .i64 6, .bool os, .int .i64 ((j : Int) + 1), .int .i64 ox, .int .i64 oy, .slice bA ob.length bc] 28) = W1 at *
                      refine (once_look_none hM1 _ OK2.out HX.out).mono ?_
                      rintro e w2 ⟨A2, c2, rfl, ho2, hb2⟩
                      have hal2 := (Below.refl w2.heap.size w2).alloc (Nat.le_refl _) (.cells #[.int .i64 0, .int .i64 0, .slice A2 0 c2] 31)
                      have hd2 := hb2.trans (hal2.mono hb2.size)
                      have hM2 := hM1.below hd2
                      have hB2 := hB1.below hd2
                      have hBL2 := hBL1.trans (hd2.mono hBL1.size)
                      obtain ⟨⟨_, _, q2, q3, _⟩, _⟩ := hB2.bx
                      clear hM1 hB1 hBL1 hb2 hal2 hd2 ho2
                      go_wp2_with fail
                      generalize w2.alloc (.cells #[.int .i64 0, .int .i64 0, .slice A2 0 c2] 31) = W3 at *
                      clear q2 q3
                      refine (once_trim hM2 _ OK2.out ox OK3.out HX.out (Nat.zero_le _) (by have := HLN.out; omega)).mono ?_
                      rintro e w4 ⟨rfl, hM4, ht4⟩
                      rw [trimAt_none ox HX.out] at hM4
                      have hB4 := hB2.turn ht4 (fun h => h (.inr ⟨Nat.le_refl _, by omega⟩))
                      have hBL4 := ht4.exBelow (fun b hb => .inl hb) hBL2
                      obtain ⟨⟨_, _, q2, q3, _⟩, _⟩ := hB4.bx
                      clear hM2 hB2 hBL2 ht4
                      go_wp2_with fail
                      refine (once_look_none hM4 _ OK2.out HX.out).mono ?_
                      rintro e w5 ⟨A3, c3, rfl, ho5, hb5⟩
                      have hal5 := (Below.refl w5.heap.size w5).alloc (Nat.le_refl _) (.cells #[.int .i64 0, .int .i64 0, .slice A3 0 c3] 31)
                      have hd5 := hb5.trans (hal5.mono hb5.size)
                      have hM5 := hM4.below hd5
                      have hBL5 := hBL4.trans (hd5.mono hBL4.size)
                      clear hM4 hB4 hBL4 hb5 hal5 hd5 ho5 q2 q3
                      go_wp2_with fail
                      refine (once_made hM5).mono ?_
                      rintro e w9 ⟨rfl, hb9⟩
                      have HI9 := Lib.hid (show InvO w w9 pb _ _ _ _ _ (i + 1) from ⟨((hM5).below hb9).less (fun b hb => .inl hb), hBL5.trans (hb9.mono hBL5.size), by have := HIr.out.len; omega, HIr.out.keep, HIr.out.bnd⟩)
                      clear hM5 hBL5 hb9
                      have hL := HL.out
                      go_wp2
                      go_roundg (n - (i + 1))
                      case measure => have := HQ.out; omega
                      case rel => exact ⟨i + 1, _, _, _, by omega, by go_num, rfl, HI9⟩
                  · skip
                    as_aux_lemma =>
                      have e1 : (ok == 1) = false := by simpa using hk1
                      have e3 : (ok == 3) = false := by simpa using hk3
                      have e4 : (ok == 4) = false := by simpa using hk4
                      have e5 : (ok == 5) = false := by simpa using hk5
                      have e6 : (ok == 6) = false := by simpa using hk6
                      clear hk1 hk3 hk4 hk5 hk6
                      go_wp2_with fail
                      have hM1 := HM1.out
                      have hB1 := HB1.out
                      have hBL1 := HBL1.out
                      have hS1 := HS1.out
                      clear cl5 fz5
                      generalize wr.alloc (.cells #[.int .i64 ok, .bool os, .int .i64 ((j : Int) + 1), .int .i64 ox, .int .i64 oy, .slice bA ob.length bc] 28) = W1 at *
                      refine (once_made hM1).mono ?_
                      rintro e w9 ⟨rfl, hb9⟩
                      have HI9 := Lib.hid (show InvO w w9 pb _ _ _ _ _ (i + 1) from ⟨((hM1).below hb9).less (fun b hb => .inl hb), hBL1.trans (hb9.mono hBL1.size), by have := HIr.out.len; omega, HIr.out.keep, HIr.out.bnd⟩)
                      clear hM1 hBL1 hb9 hB1
                      have hL := HL.out
                      go_wp2
                      go_roundg (n - (i + 1))
                      case measure => have := HQ.out; omega
                      case rel => exact ⟨i + 1, _, _, _, by omega, by go_num, rfl, HI9⟩
    · have hin : i = n := by omega
      subst hin
      have hM := HIr.out.mem
      have hBL := HIr.out.bl
      have HLN := Lib.hid (show All.length < 2199023255552 by have := HIr.out.len; omega)
      go_wp2_with fail
      refine (once_waiting hM (by have := HLN.out; omega)).mono ?_
      rintro e w2 ⟨A2, c2, rfl, hW, hb2⟩
      have HM2 := Lib.hid (hM.below hb2)
      have HB2 := Lib.hid (hBL.trans (hb2.mono hBL.size))
      have HW := Lib.hid hW
      have HKP := Lib.hid HIr.out.keep
      clear hM hBL hW hb2 HIr HQ hi hil
      have hL := HL.out
      go_wp2
      go_loopg [18, 19] All.length (fun k v18 v19 wr' => ∃ j : Nat, j ≤ All.length ∧ v18 = .int .i64 (waitsTo All j).length ∧ v19 = .int .i64 ((j : Int) + 1) ∧ k = All.length - j ∧ Hid (wr' = w2))
      case atStart => exact ⟨0, Nat.zero_le _, rfl, rfl, rfl, Lib.hid rfl⟩
      case round =>
        obtain ⟨j, hj, rfl, rfl, hq, hw⟩ := hrel
        obtain rfl := hw.out
        have HQ := Lib.hid hq
        clear hq hw
        by_cases hjl : j < All.length
        · obtain ⟨m, hm⟩ : ∃ m, All[j]? = some m := ⟨All[j], List.getElem?_eq_getElem hjl⟩
          have hsp : SP[j]? = some m.s := by rw [HKP.out.2.1, List.getElem?_map, hm]; rfl
          obtain ⟨g5, e5, cl5, _⟩ := HM2.out.cell5 hsp
          subst e5
          have hu := under_nth hm
          have hle := waitsTo_le All j
          have hws := waitsTo_succ All j
          have z2 : (j : Int) + 1 ≤ (All.length : Int) := by omega
          have z4 : decide ((j : Int) + 1 ≤ (All.length : Int)) = true := decide_eq_true z2
          have z5 : wrap64 (j : Int) = (j : Int) := by have := HLN.out; unfold wrap64; omega
          have z6 : (0 : Int) ≤ (j : Int) := by omega
          have z8 : (j : Int) < (All.length : Int) := by omega
          obtain ⟨ms, hms⟩ : ∃ s, m.s = s := ⟨_, rfl⟩
          rw [hms] at cl5 hu
          cases ms with
          | true =>
            have HS := Lib.hid (show waitsTo All (j + 1) = waitsTo All j by rw [hws, hu]; simp)
            clear hws hu hms hm hle hsp hjl hj
            go_wp2
            go_roundg (All.length - (j + 1))
            case measure => have := HQ.out; omega
            case rel => exact ⟨j + 1, by omega, by rw [HS.out], (by have := HLN.out; refine congrArg _ ?_; (try unfold wrap64); omega), rfl, Lib.hid rfl⟩
          | false =>
            have hat := waits_at (All := All) hjl (by rw [hu]; rfl)
            obtain ⟨g2, e2, cl2⟩ := HW.out _ _ hat
            subst e2
            have hlt : (waitsTo All j).length < (waits All).length := (List.getElem?_eq_some_iff.1 hat).1
            have HS := Lib.hid (show (waitsTo All (j + 1)).length = (waitsTo All j).length + 1 by rw [hws, hu]; simp)
            clear hws hu hms hm hsp hjl hj hat
            generalize (waitsTo All j).length = q at *
            generalize (waits All).length = N at *
            have y1 : (q : Int) < (N : Int) := by omega
            have y2 : decide ((N : Int) ≤ (q : Int)) = false := decide_eq_false (by omega)
            have y3 : (0 : Int) ≤ (q : Int) := by omega
            have HLE := Lib.hid hle
            clear hle hlt
            go_wp2
            go_roundg (All.length - (j + 1))
            case measure => have := HQ.out; omega
            case rel => exact ⟨j + 1, by omega, (by have := HLE.out; have := HLN.out; rw [HS.out]; refine congrArg _ ?_; (try unfold wrap64); omega), (by have := HLN.out; refine congrArg _ ?_; (try unfold wrap64); omega), rfl, Lib.hid rfl⟩
        · obtain rfl : j = All.length := by omega
          have hz : ¬ ((All.length : Int) + 1 ≤ (All.length : Int)) := by omega
          have hww : (waitsTo All All.length).length = (waits All).length := rfl
          go_wp2
          go_ret
          exact ⟨by simp, HB2.out⟩
end Go.Proofs.Ytdgcmihnbkamgaa
