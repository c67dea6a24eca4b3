/- PoolBytes: the walk of the statement. Conditions: the script as its memory says; at most 2^41 - 64 steps, each of at most 2^47 - 4096 bytes. -/
import Derived.Test.YtdgcmihnbkamgaaPoolZp
import Derived.Deep.CutRange
import Derived.BigQuiet
namespace Go.Proofs.Ytdgcmihnbkamgaa
open Go.RowKit
set_option linter.unusedVariables false
set_option linter.unusedSimpArgs false
set_option maxRecDepth 100000 in
set_option maxHeartbeats 40000000 in
theorem PoolBytes_calls (w : World) (A : Option Addr) (n c : Nat) (ops : List OpR) (hlen : ops.length = n) (hn : n ≤ 2199023255488) (hsc : ScAt w A ops) (hob : ∀ o, o ∈ ops → o.b.length ≤ 140737488351232) :
    Calls Try.prog 6 #[.slice A n c] w fun e w' => e = .returned (.bool true) ∧ Below w.heap.size w w' := by
  have HSC := Lib.hid hsc
  have HLEN := Lib.hid hlen
  have HOB := Lib.hid hob
  clear hsc hlen hob
  go_enter Try.func6, Try.ntmps6
  go_wp2_with (first
    | (go_at_call 7; refine (fixed_calls _).mono ?_; rintro e w1 ⟨rfl, hb⟩; have HB1 := Lib.hid hb; clear hb)
    | (go_at_call 8; refine (new_calls _).mono ?_; rintro e w2 ⟨pb, rfl, hpb, hp, hb⟩; have HP2 := Lib.hid hp; have HB2 := Lib.hid hb; clear hp hb))
  obtain ⟨w3, e3⟩ : ∃ w3, w2.alloc (.cells #[.slice none 0 0] 43) = w3 := ⟨_, rfl⟩
  have HS := Lib.hid (items_start HB1.out HP2.out HB2.out e3)
  clear HP2 HB2 HB1 hpb
  generalize w2.heap.size = rb at *
  rw [e3]
  clear e3
  go_loopg [5, 6, 7, 8] n (fun k v5 v6 v7 v8 wr => ∃ (i : Nat) (All : List Md) (OUT : List (Value × List UInt8)) (WT : List (Value × List Int)), i ≤ n ∧ v8 = .int .i64 i ∧ k = n - i ∧ Hid (Nums All OUT WT i (2 * i)) ∧ Hid (Fam wr (fun b => b < w.heap.size) (items pb rb All v5 v6 v7 OUT WT)) ∧ Hid (Below w.heap.size w wr))
  case atStart => exact ⟨0, [], [], [], Nat.zero_le _, rfl, rfl, Lib.hid ⟨Nat.le_refl _, (fun m h => by cases h), Nat.le_refl _, (fun r h => by cases h), Nat.le_refl _, (fun r h => by cases h)⟩, Lib.hid HS.out.1, Lib.hid HS.out.2⟩
  case round =>
    obtain ⟨i, All, OUT, WT, hi, rfl, hq, HN, HF, HB⟩ := hrel
    have HQ := Lib.hid hq
    clear hq HS
    obtain ⟨A5, c5, rfl, _⟩ := RowO.shape HF.out.tail.head.choose_spec.1
    obtain ⟨A6, c6, rfl, _⟩ := RowO.shape HF.out.tail.tail.head.choose_spec.1
    obtain ⟨A7, c7, rfl, _⟩ := RowO.shape HF.out.tail.tail.tail.head.choose_spec.1
    by_cases hil : i < n
    · obtain ⟨o, ho⟩ : ∃ o, ops[i]? = some o := ⟨ops[i]'(by have := HLEN.out; omega), List.getElem?_eq_getElem _⟩
      obtain ⟨⟨ok1, ok2, ok3, ok4, ok5, ok6⟩, a, rfl, x0, x1, x2, x3, x4, x5⟩ := HSC.out i o ho
      have y0 := cell_keeps HB.out _ _ x0
      have y1 := cell_keeps HB.out _ _ x1
      have y2 := cell_keeps HB.out _ _ x2
      have y3 := cell_keeps HB.out _ _ x3
      have y4 := cell_keeps HB.out _ _ x4
      have y5 := cell_keeps HB.out _ _ x5
      have hob := HOB.out o (List.mem_of_getElem? ho)
      clear x0 x1 x2 x3 x4 x5
      have hlt : (i : Int) < (n : Int) := by omega
      have hdec : decide ((i : Int) < (n : Int)) = true := decide_eq_true hlt
      have hu28 := Try.underlying28
      obtain ⟨bA, bc, hv⟩ := ok5.shape
      obtain ⟨ok, os, on, ox, oy, ov, ob⟩ := o
      dsimp only at ok1 ok2 ok3 ok5 ok6 y0 y1 y2 y3 y4 y5 hv hob
      subst hv
      have OK2 := Lib.hid ok2
      have OK3 := Lib.hid ok3
      have OK6 := Lib.hid hob
      have HBY := Lib.hid (ok5.keep HB.out)
      have HAL := Lib.hid ((Below.refl wr.heap.size wr).alloc (Nat.le_refl _) (.cells #[.int .i64 ok, .bool os, .int .i64 on, .int .i64 ox, .int .i64 oy, .slice bA ob.length bc] 28))
      have HX1 := Lib.hid (Box6.new wr ok os on ox oy (.slice bA ob.length bc))
      have HF1 := Lib.hid (HF.out.fence HAL.out)
      have HS1 := Lib.hid (show (wr.alloc (.cells #[.int .i64 ok, .bool os, .int .i64 on, .int .i64 ox, .int .i64 oy, .slice bA ob.length bc] 28)).heap.size = wr.heap.size + 1 by simp)
      have HB1 := Lib.hid (HB.out.trans (HAL.out.mono HB.out.size))
      have HBY1 := Lib.hid (HBY.out.below HAL.out)
      clear ok1 ok2 ok3 ok4 ok5 ok6 ho hob HBY
      go_upto_if 40 with (fail)
      clear y0 y1 y2 y3 y4 y5 HF HB
      generalize wr.alloc (.cells #[.int .i64 ok, .bool os, .int .i64 on, .int .i64 ox, .int .i64 oy, .slice bA ob.length bc] 28) = W1 at *
      have hs1 := HS1.out
      rw [hs1] at HF1
      obtain ⟨ex1, hex1⟩ : ∃ ex1 : Nat → Prop, (fun b => b < w.heap.size ∨ wr.heap.size ≤ b ∧ b < wr.heap.size + 1) = ex1 := ⟨_, rfl⟩
      have HE1 := Lib.hid (show ∀ b, b < w.heap.size → ex1 b by rw [← hex1]; exact fun b hb => .inl hb)
      have HE2 := Lib.hid (show ex1 wr.heap.size by rw [← hex1]; exact .inr ⟨Nat.le_refl _, Nat.lt_succ_self _⟩)
      rw [hex1] at HF1
      clear hex1 hs1
      generalize wr.heap.size = ob1 at *
      go_cut [3, 4, 9] from 28 to 162 (fun v3 v4 v9 w' => ∃ All2 : List Md, v3 = .pointer (some ⟨pb, 0, none⟩) ∧ v4 = .pointer (some ⟨rb, 0, none⟩) ∧ v9 = .pointer (some ⟨ob1, 0, none⟩) ∧ Hid (Nums All2 OUT WT (i + 1) (2 * i)) ∧ Hid (Fam w' ex1 (items pb rb All2 (.slice A5 OUT.length c5) (.slice A6 OUT.length c6) (.slice A7 WT.length c7) OUT WT)) ∧ Hid (Below w.heap.size w w') ∧ Hid (Box6 w' ob1 ok os on ox oy (.slice bA ob.length bc)))
      case rest =>
        obtain ⟨All2, rfl, rfl, rfl, HN2, HF2, HB2, HX2⟩ := hcut
        clear HN HF1 HB1 HX1 HBY1 HAL HS1
        obtain ⟨m, hm⟩ : ∃ m, (under All2 All2.length).getD md0 = m := ⟨_, rfl⟩
        obtain ⟨er, her⟩ : ∃ er, errOf (under All2 All2.length) = er := ⟨_, rfl⟩
        have HM := Lib.hid hm
        have HER := Lib.hid her
        have HML := Lib.hid (show m.b.length ≤ 140737488351232 by rw [← hm]; exact HN2.out.bnd.got _)
        have HLN := Lib.hid (show All2.length < 2199023255552 by have := HN2.out.len; omega)
        have HKI := Lib.hid (show int64 (All2.length : Int) by unfold int64; have := HLN.out; omega)
        clear hm her
        go_wp2_with fail
        go_loopg [5, 6, 7, 12] 2 (fun k v5 v6 v7 v12 wq => ∃ (t : Nat) (OUT : List (Value × List UInt8)) (WT : List (Value × List Int)), t ≤ 2 ∧ v12 = .int .i64 t ∧ k = 2 - t ∧ Hid (Nums All2 OUT WT (i + 1) (2 * i + t)) ∧ Hid (Fam wq ex1 (items pb rb All2 v5 v6 v7 OUT WT)) ∧ Hid (Below w.heap.size w wq) ∧ Hid (Box6 wq ob1 ok os on ox oy (.slice bA ob.length bc)))
        case atStart => exact ⟨0, OUT, WT, Nat.zero_le _, rfl, rfl, HN2, HF2, HB2, HX2⟩
        case round =>
          obtain ⟨t, OUT, WT, ht, rfl, hq2, HN3, HF3, HB3, HX3⟩ := hrel
          have HQ2 := Lib.hid hq2
          clear hq2 HN2 HF2 HB2 HX2
          obtain ⟨A5, c5, rfl, _⟩ := RowO.shape HF3.out.tail.head.choose_spec.1
          obtain ⟨A6, c6, rfl, _⟩ := RowO.shape HF3.out.tail.tail.head.choose_spec.1
          obtain ⟨A7, c7, rfl, _⟩ := RowO.shape HF3.out.tail.tail.tail.head.choose_spec.1
          by_cases ht2 : t < 2
          · have htd : decide ((t : Int) < 2) = true := decide_eq_true (by omega)
            obtain ⟨L0, hL0⟩ : ∃ L0, rowsB OUT ++ rowsI WT = L0 := ⟨_, rfl⟩
            have hf0 := HF3.out
            unfold items at hf0
            rw [hL0] at hf0
            have HFs := Lib.hid hf0.split
            obtain ⟨Ar, cr, y1⟩ := fam_len HFs.out.tail
            clear hf0
            go_wp2_with fail
            refine (fam_look wr HFs.out All2.length HKI.out HN3.out.bnd HM.out HER.out).mono ?_
            rintro e w1 ⟨Ab, cb, rfl, hf1, hb1⟩
            have hal := (Below.refl w1.heap.size w1).alloc (Nat.le_refl _) (.cells #[.int .i64 m.f, .int .i64 m.t, .slice Ab m.b.length cb] 31)
            have HFb := Lib.hid (hf1.fence hal)
            have HC := Lib.hid (Box3.new w1 (.int .i64 m.f) (.int .i64 m.t) (.slice Ab m.b.length cb))
            have HSb := Lib.hid (show (w1.alloc (.cells #[.int .i64 m.f, .int .i64 m.t, .slice Ab m.b.length cb] 31)).heap.size = w1.heap.size + 1 by simp)
            have hb2 := hb1.trans (hal.mono hb1.size)
            have HB4 := Lib.hid (HB3.out.trans (hb2.mono HB3.out.size))
            have HX4 := Lib.hid (HX3.out.below hb2)
            clear y1 hb1 hf1 hal hb2 HFs HB3 HX3
            obtain ⟨Ar, cr, y1⟩ := fam_len HFb.out.tail.tail
            go_wp2_with fail
            generalize w1.alloc (.cells #[.int .i64 m.f, .int .i64 m.t, .slice Ab m.b.length cb] 31) = W2 at *
            refine (fam_rlook W2 HFb.out.tail.tail All2.length HKI.out HLN.out HM.out HER.out).mono ?_
            rintro e w3 ⟨rfl, hb3⟩
            have hal := (Below.refl w3.heap.size w3).alloc (Nat.le_refl _) (.cells #[.int .i64 m.f, .int .i64 m.t, .string ⟨m.b.toArray⟩, .bool false] 55)
            have HFd := Lib.hid ((HFb.out.below hb3).fence hal)
            have HSd := Lib.hid (show (w3.alloc (.cells #[.int .i64 m.f, .int .i64 m.t, .string ⟨m.b.toArray⟩, .bool false] 55)).heap.size = w3.heap.size + 1 by simp)
            have hb2 := hb3.trans (hal.mono hb3.size)
            have HB5 := Lib.hid (HB4.out.trans (hb2.mono HB4.out.size))
            have HX5 := Lib.hid (HX4.out.below hb2)
            have HC5 := Lib.hid (HC.out.below hb2)
            have HD5 := Lib.hid (Box4.new w3 m.f m.t ⟨m.b.toArray⟩ false)
            have HZ := Lib.hid (show w1.heap.size < w3.heap.size by have := hb3.size; have := HSb.out; omega)
            clear y1 hb3 hal hb2 HB4 HX4 HC HFb
            obtain ⟨⟨r0, r1, r2⟩, _, _, _⟩ := HC5.out.bx
            obtain ⟨⟨t0, t1, t2, t3⟩, _, _, _, _⟩ := HD5.out.bx
            go_wp2_with fail
            generalize w3.alloc (.cells #[.int .i64 m.f, .int .i64 m.t, .string ⟨m.b.toArray⟩, .bool false] 55) = W4 at *
            refine (same_calls W4 m.f m.t m.b (RowO.bys HFd.out.head.choose_spec.1 rfl) false).mono ?_
            rintro e w5 ⟨rfl, hb5⟩
            have HF6 := Lib.hid (HFd.out.below hb5)
            have HB6 := Lib.hid (HB5.out.trans (hb5.mono HB5.out.size))
            have HX6 := Lib.hid (HX5.out.below hb5)
            have HC6 := Lib.hid (HC5.out.below hb5)
            have HD6 := Lib.hid (HD5.out.below hb5)
            have HZ6 := Lib.hid hb5.size
            clear r0 r1 r2 t0 t1 t2 t3 hb5 HFd HB5 HX5 HC5 HD5
            go_wp2_with fail
            have hnum := HN3.out.out
            obtain ⟨ex3, hex3⟩ : ∃ ex3 : Nat → Prop, (fun b => (ex1 b ∨ w1.heap.size ≤ b ∧ b < W2.heap.size) ∨ w3.heap.size ≤ b ∧ b < W4.heap.size) = ex3 := ⟨_, rfl⟩
            have hf5 := HF6.out
            rw [hex3] at hf5
            have E3 := Lib.hid (show ∀ b, ex1 b → ex3 b by rw [← hex3]; exact fun b hb => .inl (.inl hb))
            have E3a := Lib.hid (show ex3 w1.heap.size by rw [← hex3]; exact .inl (.inr ⟨Nat.le_refl _, by have := HSb.out; omega⟩))
            have E3b := Lib.hid (show ex3 w3.heap.size by rw [← hex3]; exact .inr ⟨Nat.le_refl _, by have := HSd.out; omega⟩)
            have k1 := HC6.out.bx.1.2.2
            have k2 := HD6.out.bx.1.2.2.1
            have HF7 := Lib.hid hf5
            clear hex3 hf5 HF6 HC6 HD6 HZ HZ6 HSb HSd
            generalize w1.heap.size = bx1 at *
            generalize w3.heap.size = bx2 at *
            go_cut [5, 6] from 114 to 156 (fun v5 v6 w' => ∃ A5 c5 A6 c6, v5 = .slice A5 (OUT.length + 1) c5 ∧ v6 = .slice A6 (OUT.length + 1) c6 ∧ Hid (Fam w' ex1 (rowItem 9 1 (.slice A6 (OUT.length + 1) c6) (OUT.length + 1) ((OUT.map fun r => strV r.2) ++ [strV m.b]) :: rowItem 26 1 (.slice A5 (OUT.length + 1) c5) (OUT.length + 1) (OUT.map (·.1) ++ [Value.slice Ab m.b.length cb]) :: rowItem 5 1 (.slice Ab m.b.length cb) m.b.length (m.b.map U8) :: poolItem pb All2 :: refItem rb All2 :: rowItem 49 1 (.slice A7 WT.length c7) WT.length (WT.map (·.1)) :: L0)) ∧ Hid (Below w.heap.size w w') ∧ Hid (Box6 w' ob1 ok os on ox oy (.slice bA ob.length bc)))
            case rest =>
              obtain ⟨A5', c5', A6', c6', rfl, rfl, HF8, HB8, HX8⟩ := hcut
              clear HF7 HB6 HX6 E3 E3a E3b k1 k2
              have HFp := Lib.hid (Fam.pull [rowItem 9 1 (.slice A6' (OUT.length + 1) c6') (OUT.length + 1) ((OUT.map fun r => strV r.2) ++ [strV m.b]), rowItem 26 1 (.slice A5' (OUT.length + 1) c5') (OUT.length + 1) (OUT.map (·.1) ++ [Value.slice Ab m.b.length cb]), rowItem 5 1 (.slice Ab m.b.length cb) m.b.length (m.b.map U8)] _ HF8.out)
              clear HF8
              go_wp2_with fail
              refine (fam_waiting _ HFp.out HLN.out).mono ?_
              rintro e w9 ⟨Aw, cw, rfl, hf9, hb9⟩
              obtain ⟨A7', c7', w10, hr, hf10, ht10⟩ := Fam.more (Fam.pull [rowI (.slice Aw (waits All2).length cw) (waits All2), poolItem pb All2, rowItem 9 1 (.slice A6' (OUT.length + 1) c6') (OUT.length + 1) ((OUT.map fun r => strV r.2) ++ [strV m.b]), rowItem 26 1 (.slice A5' (OUT.length + 1) c5') (OUT.length + 1) (OUT.map (·.1) ++ [Value.slice Ab m.b.length cb]), rowItem 5 1 (.slice Ab m.b.length cb) m.b.length (m.b.map U8), refItem rb All2] _ hf9) 52 (.slice Aw (waits All2).length cw) Try.underlying52 info49 (by rfl) (by rfl) (.inl (by have := HN3.out.wts; omega)) (by have := HN3.out.wts; omega)
              have HR10 := Lib.hid hr
              have HB10 := Lib.hid (ht10.exBelow HE1.out (HB8.out.trans (hb9.mono HB8.out.size)))
              have HX10 := Lib.hid ((HX8.out.below hb9).turn ht10 (fun h => h HE2.out))
              have HN10 := Lib.hid (HN3.out.step (r := (.slice Ab m.b.length cb, m.b)) HML.out (s := (.slice Aw (waits All2).length cw, waits All2)) (by have := waits_len All2; have := HLN.out; show (waits All2).length ≤ _; omega))
              have HF10 : Hid (Fam w10 ex1 (items pb rb All2 (.slice A5' (OUT.length + 1) c5') (.slice A6' (OUT.length + 1) c6') (.slice A7' (WT.length + 1) c7') (OUT ++ [(.slice Ab m.b.length cb, m.b)]) (WT ++ [(.slice Aw (waits All2).length cw, waits All2)]))) := Lib.hid (by
                rw [← hL0] at hf10
                have h := (hf10.perm (perm_round _ _ _ _ _ _ _ (rowsB OUT) (rowsI WT))).join
                unfold items
                rw [rowsB_append, rowsI_append, List.length_append, List.length_append, List.map_append, List.map_append, List.map_append]
                exact h)
              clear hr hf10 ht10 hf9 hb9 HFp HB8 HX8
              go_wp2_with (at_builtin; (refine wpList_append_run rfl _ _ _ rfl rfl rfl HR10.out ?_))
              go_roundg (2 - (t + 1))
              case measure => have := HQ2.out; omega
              case rel => exact ⟨t + 1, _, _, by omega, by go_num, rfl, HN10, HF10, HB10, HX10⟩
            case first =>
              have hb := Below.drew ((Below.refl w5.heap.size w5).alloc (Nat.le_refl _) (.cells #[.slice Ab m.b.length cb] 26))
              obtain ⟨A5a, c5a, w6a, A6a, c6a, w7a, r6, r7, f7, t6, bl, t7⟩ := push_two_late (HF7.out.below hb) (p1 := ⟨w5.heap.size, 0, none⟩) (x := .slice Ab m.b.length cb) (y := .string ⟨m.b.toArray⟩) (by show (w5.alloc (.cells #[.slice Ab m.b.length cb] 26)).cell? _ = _; rw [Lib.cell_of_heap (heap_alloc_new w5 (.cells #[.slice Ab m.b.length cb] 26))]; rfl) (by rfl) (by rfl) (by omega)
              have HQa1 := Lib.hid (And.intro (cell_keeps hb _ _ k1) (cell_keeps hb _ _ k2))
              have HQa2 := Lib.hid (And.intro (t6.cell E3a.out HQa1.out.1) (t6.cell E3b.out HQa1.out.2))
              have HQa3 := Lib.hid (And.intro (cell_keeps bl _ _ HQa2.out.1) (cell_keeps bl _ _ HQa2.out.2))
              have HQa4 := Lib.hid (And.intro (t7.cell E3a.out HQa3.out.1) (t7.cell E3b.out HQa3.out.2))
              have HRa1 := Lib.hid r6
              have HRa2 := Lib.hid r7
              have HFa := Lib.hid (f7.less E3.out)
              have HXa := Lib.hid ((((HX6.out.below hb).turn t6 (fun h => h (E3.out _ HE2.out))).below bl).turn t7 (fun h => h (E3.out _ HE2.out)))
              have HBa0 := t6.exBelow (fun b hb => E3.out _ (HE1.out b hb)) (HB6.out.trans (hb.mono HB6.out.size))
              have HBa := Lib.hid (t7.exBelow (fun b hb => E3.out _ (HE1.out b hb)) (HBa0.trans (bl.mono HBa0.size)))
              clear hb r6 r7 f7 t6 bl t7 HBa0

              obtain ⟨hb, h1, h2, hs⟩ := two_news w5 (.slice Ab m.b.length cb) (.string ⟨m.b.toArray⟩) 26 9
              obtain ⟨A5b, c5b, w6b, A6b, c6b, w7b, r6, r7, f7, t6, t7⟩ := push_two (HF7.out.fence hb) h1 h2 (.inr ⟨Nat.le_succ _, by rw [hs]; exact Nat.lt_succ_self _⟩) (by rfl) (by rfl) (by omega)
              have HQb1 := Lib.hid (And.intro (cell_keeps hb _ _ k1) (cell_keeps hb _ _ k2))
              have HQb2 := Lib.hid (And.intro (t6.cell (.inl E3a.out) HQb1.out.1) (t6.cell (.inl E3b.out) HQb1.out.2))
              have HQb3 := Lib.hid (And.intro (t7.cell (.inl E3a.out) HQb2.out.1) (t7.cell (.inl E3b.out) HQb2.out.2))
              have HRb1 := Lib.hid r6
              have HRb2 := Lib.hid r7
              have HFb := Lib.hid (f7.less (ex' := ex1) (fun b hb => .inl (E3.out b hb)))
              have HXb := Lib.hid (((HX6.out.below hb).turn t6 (fun h => h (.inl (E3.out _ HE2.out)))).turn t7 (fun h => h (.inl (E3.out _ HE2.out))))
              have HBb := Lib.hid (t7.exBelow (fun b hb => .inl (E3.out _ (HE1.out b hb))) (t6.exBelow (fun b hb => .inl (E3.out _ (HE1.out b hb))) (HB6.out.trans (hb.mono HB6.out.size))))
              clear hb h1 h2 hs r6 r7 f7 t6 t7

              obtain ⟨hb, h1, h2, hs⟩ := two_news w5 (.string ⟨m.b.toArray⟩) (.slice Ab m.b.length cb) 9 26
              obtain ⟨A5c, c5c, w6c, A6c, c6c, w7c, r6, r7, f7, t6, t7⟩ := push_two (HF7.out.fence hb) h2 h1 (.inr ⟨Nat.le_refl _, by rw [hs]; exact Nat.lt_succ_of_lt (Nat.lt_succ_self _)⟩) (by rfl) (by rfl) (by omega)
              have HQc1 := Lib.hid (And.intro (cell_keeps hb _ _ k1) (cell_keeps hb _ _ k2))
              have HQc2 := Lib.hid (And.intro (t6.cell (.inl E3a.out) HQc1.out.1) (t6.cell (.inl E3b.out) HQc1.out.2))
              have HQc3 := Lib.hid (And.intro (t7.cell (.inl E3a.out) HQc2.out.1) (t7.cell (.inl E3b.out) HQc2.out.2))
              have HRc1 := Lib.hid r6
              have HRc2 := Lib.hid r7
              have HFc := Lib.hid (f7.less (ex' := ex1) (fun b hb => .inl (E3.out b hb)))
              have HXc := Lib.hid (((HX6.out.below hb).turn t6 (fun h => h (.inl (E3.out _ HE2.out)))).turn t7 (fun h => h (.inl (E3.out _ HE2.out))))
              have HBc := Lib.hid (t7.exBelow (fun b hb => .inl (E3.out _ (HE1.out b hb))) (t6.exBelow (fun b hb => .inl (E3.out _ (HE1.out b hb))) (HB6.out.trans (hb.mono HB6.out.size))))
              clear hb h1 h2 hs r6 r7 f7 t6 t7

              have HQ0 := Lib.hid (And.intro k1 k2)
              have HQc0 := Lib.hid (And.intro (cell_keeps (Below.drew ((Below.refl w5.heap.size w5).alloc (Nat.le_refl _) (.cells #[.string ⟨m.b.toArray⟩] 9))) _ _ k1) (cell_keeps (Below.drew ((Below.refl w5.heap.size w5).alloc (Nat.le_refl _) (.cells #[.string ⟨m.b.toArray⟩] 9))) _ _ k2))
              clear k1 k2 HF7 HB6 HX6
              go_region_held3 (fun w' => w'.cell? ⟨bx1, 2, none⟩ = some (.slice Ab m.b.length cb) ∧ w'.cell? ⟨bx2, 2, none⟩ = some (.string ⟨m.b.toArray⟩))
                (first | with_reducible exact HQa4.out | with_reducible exact HQa3.out | with_reducible exact HQa2.out | with_reducible exact HQb3.out | with_reducible exact HQb2.out | with_reducible exact HQc3.out | with_reducible exact HQc2.out | with_reducible exact HQb1.out | with_reducible exact HQc1.out | with_reducible exact HQa1.out | with_reducible exact HQc0.out | exact HQ0.out)
                (first
                  | ((with_reducible refine step_at (w6a.alloc (.cells #[.string ⟨m.b.toArray⟩] 9)) ?_); refine step_append_run (by rfl) _ _ _ (by rfl) (by rfl) (by rfl) HRa2.out ?_)
                  | ((with_reducible refine step_at w6b ?_); refine step_append_run (by rfl) _ _ _ (by rfl) (by rfl) (by rfl) HRb2.out ?_)
                  | ((with_reducible refine step_at w6c ?_); refine step_append_run (by rfl) _ _ _ (by rfl) (by rfl) (by rfl) HRc2.out ?_)
                  | ((with_reducible refine step_at (w5.alloc (.cells #[.slice Ab m.b.length cb] 26)).drew ?_); refine step_append_run (by rfl) _ _ _ (by rfl) (by rfl) (by rfl) HRa1.out ?_)
                  | ((with_reducible refine step_at ((w5.alloc (.cells #[.slice Ab m.b.length cb] 26)).alloc (.cells #[.string ⟨m.b.toArray⟩] 9)).drew ?_); refine step_append_run (by rfl) _ _ _ (by rfl) (by rfl) (by rfl) HRb1.out ?_)
                  | ((with_reducible refine step_at ((w5.alloc (.cells #[.string ⟨m.b.toArray⟩] 9)).alloc (.cells #[.slice Ab m.b.length cb] 26)).drew ?_); refine step_append_run (by rfl) _ _ _ (by rfl) (by rfl) (by rfl) HRc1.out ?_))
              · go_wp2_with fail
                go_meet
                case rel => exact ⟨A5a, c5a, A6a, c6a, rfl, rfl, HFa, HBa, HXa⟩
              · go_wp2_with fail
                go_meet
                case rel => exact ⟨A5b, c5b, A6b, c6b, rfl, rfl, HFb, HBb, HXb⟩
              · go_wp2_with fail
                go_meet
                case rel => exact ⟨A5c, c5c, A6c, c6c, rfl, rfl, HFc, HBc, HXc⟩
          · obtain rfl : t = 2 := by omega
            have htd : decide (((2 : Nat) : Int) < 2) = false := decide_eq_false (by omega)
            obtain ⟨⟨_, _, _, y3, _⟩, _⟩ := HX3.out.bx
            have HSP := Lib.hid (show Fam wr ex1 (rowItem 26 1 (.slice A5 OUT.length c5) OUT.length (OUT.map (·.1)) :: (rowsB OUT ++ (pairItem pb rb All2 :: rowItem 9 1 (.slice A6 OUT.length c6) OUT.length (OUT.map fun r => strV r.2) :: rowItem 49 1 (.slice A7 WT.length c7) WT.length (WT.map (·.1)) :: rowsI WT))) from HF3.out.perm (perm_spoil _ _ _ _ (rowsB OUT) (rowsI WT)))
            have HSN := Lib.hid (show OUT.length ≤ 6597069766464 by have := HN3.out.out; omega)
            go_wp2_with (go_at_call 22; (refine (spoil_calls _ HSP.out HSN.out HN3.out.outs).mono ?_); rintro e w5 ⟨rfl, hf5, ht5⟩; have HF5 := Lib.hid (items_spoilt hf5); have HB5 := Lib.hid (ht5.exBelow HE1.out HB3.out); have HN5 : Hid (Nums All2 [] WT (i + 1) (2 * i + 2)) := Lib.hid ⟨HN3.out.len, HN3.out.bnd, Nat.zero_le _, (fun r h => by cases h), HN3.out.wts, HN3.out.wtss⟩; clear hf5 ht5)
            · go_roundg (n - (i + 1))
              case measure => have := HQ.out; omega
              case rel => exact ⟨i + 1, All2, [], WT, by omega, by go_num, rfl, HN5, Lib.hid (HF5.out.less HE1.out), HB5⟩
            · go_roundg (n - (i + 1))
              case measure => have := HQ.out; omega
              case rel => exact ⟨i + 1, All2, OUT, WT, by omega, by go_num, rfl, HN3, Lib.hid (HF3.out.less HE1.out), HB3⟩
      case first =>
        obtain ⟨⟨y0, y1, y2, y3, y4, y5⟩, y6⟩ := HX1.out.bx
        by_cases hk : ok = 1
        · subst hk
          have hob := OK6.out
          have HBd := Lib.hid (HBY1.out.below (Below.drew (Below.refl W1.heap.size W1)))
          have HBe := Lib.hid (show Bys W1.drew (fun b => b < W1.drew.heap.size) (.slice bA ob.length bc) ob from HBd.out.mono (fun b hb => by have := HB1.out.size; show b < W1.heap.size; omega))
          go_wp2_with fail
          go_cut [10] from 28 to 162 (fun v10 w' => ∃ A3 c3, v10 = .slice A3 (ob.length + 2) c3 ∧ Hid (Left78 W1 ob (.slice A3 (ob.length + 2) c3) w'))
          case rest =>
            obtain ⟨A3, c3, rfl, HL⟩ := hcut
            obtain ⟨Ax, cx, ex0, _, hpos⟩ := RowO.shape HL.out.1
            injection ex0 with ea _ ec
            subst ea
            subst ec
            obtain ⟨gb, rfl⟩ := hpos (by omega)
            clear hpos
            have hlen : All.length < 2199023255552 := by have := HN.out.len; omega
            have hf0 := HF1.out.add HL.out.2 (rowItem 5 1 (.slice (some ⟨gb, 0, none⟩) (ob.length + 2) c3) (ob.length + 2) ((ob ++ ([77, 78] : List UInt8)).map U8)) HL.out.1
            unfold items at hf0
            obtain ⟨T, hT⟩ : ∃ T, rowItem 26 1 (.slice A5 OUT.length c5) OUT.length (OUT.map (·.1)) :: rowItem 9 1 (.slice A6 OUT.length c6) OUT.length (OUT.map fun r => strV r.2) :: rowItem 49 1 (.slice A7 WT.length c7) WT.length (WT.map (·.1)) :: (rowsB OUT ++ rowsI WT) = T := ⟨_, rfl⟩
            rw [hT] at hf0
            have HFr := Lib.hid hf0.swap.split
            have HBr := Lib.hid (HB1.out.trans (HL.out.2.mono HB1.out.size))
            have HXr := Lib.hid (HX1.out.below HL.out.2)
            have HBYr := Lib.hid ((HBY1.out.below HL.out.2).mono HE1.out)
            have hd := Below.drew (Below.refl wc.heap.size wc)
            have HPre := Lib.hid (Bys.pre (RowO.bys (RowO.below HL.out.1 hd) (by simp)) (by decide))
            have HFd := Lib.hid (HFr.out.below hd)
            have HXd := Lib.hid (HXr.out.below hd)
            have HBYd := Lib.hid (HBYr.out.below hd)
            have HBd2 := Lib.hid (HBr.out.trans (hd.mono HBr.out.size))
            have HLEN2 := Lib.hid hlen
            have sd := HBYd.out.str
            obtain ⟨⟨_, _, _, y3, y4, y5⟩, _⟩ := HXr.out.bx
            have hcap : ob.length + 2 ≤ c3 := RowO.room HL.out.1
            have hs2 : (ob.length : Int) ≤ (c3 : Int) := by omega
            have hs1 : (0 : Int) ≤ (ob.length : Int) := by omega
            have hs3 : (ob.length : Int) ≤ (ob.length : Int) + 2 := by omega
            have hs4 : (ob.length : Int) ≤ ((ob.length + 2 : Nat) : Int) := by omega
            clear hf0 hd hlen y0 y1 y2 y6
            go_wp2_with fail
            go_region_held3 (fun w' => (w'.cell? ⟨ob1, 3, none⟩ = some (.int .i64 ox) ∧ w'.cell? ⟨ob1, 4, none⟩ = some (.int .i64 oy) ∧ w'.cell? ⟨ob1, 5, none⟩ = some (.slice bA ob.length bc)) ∧ (convert 26 9 (.slice bA ob.length bc)).run Try.prog w' = .ok (.string ⟨ob.toArray⟩) w')
              (first | with_reducible exact HQ6.out | with_reducible exact HQ5.out | (exact ⟨⟨y3, y4, y5⟩, sd⟩))
              (first
                | (go_at_call 19; (refine (fam_rput _ HF5.out.swap ox oy ob HLEN2.out).mono ?_); rintro e w6 ⟨rfl, hf6, ht6⟩; have HX6 := Lib.hid (HX5.out.turn ht6 (fun h => h HE2.out)); have HBY6 := Lib.hid (HBY5.out.turn ht6 (fun b hb h => h hb)); have HQ6 := Lib.hid (And.intro HX6.out.bx.1.2.2.2 HBY6.out.str); have HF6 := Lib.hid hf6; have HB6 := Lib.hid (ht6.exBelow HE1.out HB5.out); clear hf6 ht6)
                | (go_at_call 9; (refine (fam_put _ HFd.out ox oy HPre.out OK6.out HLEN2.out).mono ?_); rintro e w5 ⟨rfl, hf5, ht5⟩; have HX5 := Lib.hid (HXd.out.turn ht5 (fun h => h HE2.out)); have HBY5 := Lib.hid (HBYd.out.turn ht5 (fun b hb h => h hb)); have HQ5 := Lib.hid (And.intro HX5.out.bx.1.2.2.2 HBY5.out.str); have HF5 := Lib.hid hf5; have HB5 := Lib.hid (ht5.exBelow HE1.out HBd2.out); clear hf5 ht5))
            clear y3 y4 y5 sd HQ5 HQ6
            have HF7 := Lib.hid HF6.out.swap.join
            obtain ⟨⟨_, _, _, _, _, y5⟩, _⟩ := HX6.out.bx
            have hd := Below.drew (Below.refl w6.heap.size w6)
            obtain ⟨okr, hrow, _⟩ := HF6.out.tail.tail.head
            obtain ⟨gb', cb', e', z0, _, _⟩ := RowO.cell hrow (j := ob.length) (u := .int .u8 77) (by rw [List.getElem?_map, List.getElem?_append_right (Nat.le_refl _), Nat.sub_self]; rfl)
            cases e'
            obtain ⟨gb', cb', e', z1, _, _⟩ := RowO.cell hrow (j := ob.length + 1) (u := .int .u8 78) (by rw [List.getElem?_map, List.getElem?_append_right (by omega), show ob.length + 1 - ob.length = 1 by omega]; rfl)
            cases e'
            have s1 := (HBY6.out.below hd).str
            have s2 := (Bys.pre (RowO.bys (RowO.below hrow hd) (by simp)) (by decide)).str
            have hl0 : (0 : Int) ≤ (ob.length : Int) := by omega
            have hl1 : (ob.length : Int) < (ob.length : Int) + 2 := by omega
            have hl2 : (0 : Int) ≤ (ob.length : Int) + 1 := by omega
            have hl3 : (ob.length : Int) + 1 < (ob.length : Int) + 2 := by omega
            have hl4 : (ob.length : Int) ≤ (ob.length : Int) + 2 := by omega
            have hww : IntKind.i64.wrap ((ob.length : Int) + 1) = (ob.length : Int) + 1 := by rw [IntKind.wrap_i64]; omega
            clear hd hrow
            go_wp2_with fail
            go_region_held3 (fun w' => (w'.cell? ⟨ob1, 5, none⟩ = some (.slice bA ob.length bc) ∧ w'.cell? ⟨gb, ob.length, none⟩ = some (.int .u8 77) ∧ w'.cell? ⟨gb, ob.length + 1, none⟩ = some (.int .u8 78)) ∧ (convert 26 9 (.slice bA ob.length bc)).run Try.prog w' = .ok (.string ⟨ob.toArray⟩) w' ∧ (convert 26 9 (.slice (some ⟨gb, 0, none⟩) ob.length c3)).run Try.prog w' = .ok (.string ⟨ob.toArray⟩) w')
              (exact ⟨⟨y5, z0, z1⟩, s1, s2⟩)
              (fail)
            clear y5 z0 z1 s1 s2 hww
            have hdw := Below.drew (Below.refl w6.heap.size w6)
            have HF8 := Lib.hid (HF7.out.below hdw)
            have HB8 := Lib.hid (HB6.out.trans (hdw.mono HB6.out.size))
            have HX8 := Lib.hid (HX6.out.below hdw)
            clear HF7 HF6 HB6 HX6 hdw HBY6 HBr HXr HFr HBYr HPre HFd HXd HBYd HBd2 HF5 HB5 HX5 HBY5
            go_wp2_with fail
            go_loopg [11] (ob.length + 2) (fun k v11 wq => ∃ (q : Nat) (cs : List UInt8), q ≤ ob.length + 2 ∧ cs.length = ob.length + 2 ∧ v11 = .int .i64 q ∧ k = ob.length + 2 - q ∧ Hid (Fam wq ex1 (pairItem pb rb (All ++ [⟨ox, oy, ob, false⟩]) :: rowItem 5 1 (.slice (some ⟨gb, 0, none⟩) (ob.length + 2) c3) (ob.length + 2) (cs.map U8) :: T)) ∧ Hid (Below w.heap.size w wq) ∧ Hid (Box6 wq ob1 1 os on ox oy (.slice bA ob.length bc)))
            case atStart => exact ⟨0, ob ++ ([77, 78] : List UInt8), Nat.zero_le _, by simp, rfl, rfl, HF8, HB8, HX8⟩
            case round =>
              obtain ⟨q, cs, hq, hcs, rfl, hqq, HFq, HBq, HXq⟩ := hrel
              have HQq := Lib.hid hqq
              have HCS := Lib.hid hcs
              clear hqq hcs HF8 HB8 HX8
              by_cases hql : q < ob.length + 2
              · obtain ⟨ok, hP, _, hs⟩ := HFq.out.swap.turn
                obtain ⟨g, c2, e2, z0, z2, _⟩ := RowO.cell hP (j := q) (u := U8 (cs[q]'(by have := HCS.out; omega))) (by rw [List.getElem?_map, List.getElem?_eq_getElem]; rfl)
                cases e2
                have hput := RowO.put hP q (.int .u8 99)
                have e3 : (cs.map U8).set q (.int .u8 99) = (cs.set q 99).map U8 := by rw [List.map_set]; rfl
                rw [e3] at hput
                obtain ⟨hF2, hT2⟩ := hs _ (rowItem 5 1 (.slice (some ⟨gb, 0, none⟩) (ob.length + 2) c3) (ob.length + 2) ((cs.set q 99).map U8)) (hput.1.mono fun b hb => .inl hb) hput.2
                have HF9 := Lib.hid hF2.swap
                have HB9 := Lib.hid (hT2.exBelow HE1.out HBq.out)
                have HX9 := Lib.hid (HXq.out.turn hT2 (fun h => h HE2.out))
                have f2 := z2 q
                have hq0 : (0 : Int) ≤ (q : Int) := by omega
                have hq1 : (q : Int) < (ob.length : Int) + 2 := by omega
                have hqd : decide ((q : Int) < (ob.length : Int) + 2) = true := decide_eq_true hq1
                clear hP hs hput e3 hF2 hT2 z2 HFq HBq HXq
                go_wp2_with fail
                go_roundg (ob.length + 2 - (q + 1))
                case measure => have := HQq.out; omega
                case rel => exact ⟨q + 1, cs.set q 99, by omega, by rw [List.length_set]; exact HCS.out, by go_num, rfl, HF9, HB9, HX9⟩
              · have hqd : decide ((q : Int) < (ob.length : Int) + 2) = false := decide_eq_false (by omega)
                have HN5 : Hid (Nums (All ++ [(⟨ox, oy, ob, false⟩ : Md)]) OUT WT (i + 1) (2 * i)) := Lib.hid ⟨by rw [List.length_append]; have := HN.out.len; simp; omega, HN.out.bnd.snoc (m := ⟨ox, oy, ob, false⟩) OK6.out, HN.out.out, HN.out.outs, HN.out.wts, HN.out.wtss⟩
                have HF9 : Hid (Fam _ ex1 (items pb rb (All ++ [(⟨ox, oy, ob, false⟩ : Md)]) (.slice A5 OUT.length c5) (.slice A6 OUT.length c6) (.slice A7 WT.length c7) OUT WT)) := Lib.hid (by
                  unfold items
                  rw [hT]
                  exact HFq.out.swap.tail)
                go_wp2_with fail
                go_meet
                case rel => exact ⟨_, rfl, rfl, rfl, HN5, HF9, HBq, HXq⟩
          case first =>
            have hz : ∀ {v : Value} {w' : World}, Left78 W1.drew ob v w' → Left78 W1 ob v w' := fun h => ⟨h.1, (Below.drew (Below.refl _ _)).trans h.2⟩
            obtain ⟨w1a, A2a, c2a, w2a, A3a, c3a, w3a, ra1, ra2, ra3, ba1, ba2, la⟩ := bytes_A W1.drew HBe.out hob
            obtain ⟨w1b, A2b, c2b, w2b, A3b, c3b, w3b, rb1, rb2, rb3, bb1, bb2, bb3, lb⟩ := bytes_B W1.drew HBe.out hob
            obtain ⟨w1c, A2c, c2c, w2c, A3c, c3c, w3c, rc1, rc2, rc3, bc1, bc2, bc3, lc⟩ := bytes_C W1.drew HBe.out hob
            rw [rb1] at rc1
            injection rc1 with _ rc1
            subst rc1
            have mka : (Instr.makeSlice 26 (.int .i64 0) (.int .i64 ((ob.length : Int) + 2))).run Try.prog (W1.alloc (.cells #[.int .u8 77, .int .u8 78] 5)).drew = .ok (.slice (some ⟨W1.heap.size + 1, 0, none⟩) 0 (ob.length + 2)) w1a := ra1
            have mkb : (Instr.makeSlice 26 (.int .i64 0) (.int .i64 ((ob.length : Int) + 2))).run Try.prog W1.drew = .ok (.slice (some ⟨W1.heap.size, 0, none⟩) 0 (ob.length + 2)) w1b := rb1
            have HRa1 := Lib.hid (show (Builtin.append_ #[26, 26] 26 #[.slice (some ⟨W1.heap.size + 1, 0, none⟩) 0 (ob.length + 2), .slice bA ob.length bc]).run Try.prog w1a = .ok (.slice A2a ob.length c2a) w2a from ra2)
            have HRa2 := Lib.hid (show (Builtin.append_ #[26, 26] 26 #[.slice A2a ob.length c2a, .slice (some ⟨W1.heap.size, 0, none⟩) 2 2]).run Try.prog w2a = .ok (.slice A3a (ob.length + 2) c3a) w3a from ra3)
            have HRb1 := Lib.hid (show (Builtin.append_ #[26, 26] 26 #[.slice (some ⟨W1.heap.size, 0, none⟩) 0 (ob.length + 2), .slice bA ob.length bc]).run Try.prog (w1b.alloc (.cells #[.int .u8 77, .int .u8 78] 5)) = .ok (.slice A2b ob.length c2b) w2b from rb2)
            have HRb2 := Lib.hid (show (Builtin.append_ #[26, 26] 26 #[.slice A2b ob.length c2b, .slice (some ⟨w1b.heap.size, 0, none⟩) 2 2]).run Try.prog w2b = .ok (.slice A3b (ob.length + 2) c3b) w3b from rb3)
            have HRc1 := Lib.hid (show (Builtin.append_ #[26, 26] 26 #[.slice (some ⟨W1.heap.size, 0, none⟩) 0 (ob.length + 2), .slice bA ob.length bc]).run Try.prog w1b = .ok (.slice A2c ob.length c2c) w2c from rc2)
            have HRc2 := Lib.hid (show (Builtin.append_ #[26, 26] 26 #[.slice A2c ob.length c2c, .slice (some ⟨w2c.heap.size, 0, none⟩) 2 2]).run Try.prog (w2c.alloc (.cells #[.int .u8 77, .int .u8 78] 5)) = .ok (.slice A3c (ob.length + 2) c3c) w3c from rc3)
            have HLa := Lib.hid (hz la)
            have HLb := Lib.hid (hz lb)
            have HLc := Lib.hid (hz lc)
            have y5d : W1.drew.cell? ⟨ob1, 5, none⟩ = some (.slice bA ob.length bc) := y5
            have HQ0 := Lib.hid y5
            have HQa0 := Lib.hid (show (W1.alloc (.cells #[.int .u8 77, .int .u8 78] 5)).drew.cell? ⟨ob1, 5, none⟩ = some (.slice bA ob.length bc) from cell_keeps (Below.drew ((Below.refl W1.heap.size W1).alloc (Nat.le_refl _) (.cells #[.int .u8 77, .int .u8 78] 5))) _ _ y5)
            have HQa1 := Lib.hid (cell_keeps ba1 _ _ y5d)
            have HQa2 := Lib.hid (cell_keeps ba2 _ _ y5d)
            have HQa3 := Lib.hid (cell_keeps la.2 _ _ y5d)
            have HQb1 := Lib.hid (cell_keeps bb1 _ _ y5d)
            have HQb2 := Lib.hid (show (w1b.alloc (.cells #[.int .u8 77, .int .u8 78] 5)).cell? ⟨ob1, 5, none⟩ = some (.slice bA ob.length bc) from cell_keeps bb2 _ _ y5d)
            have HQb3 := Lib.hid (cell_keeps bb3 _ _ y5d)
            have HQb4 := Lib.hid (cell_keeps lb.2 _ _ y5d)
            have HQc2 := Lib.hid (cell_keeps bc2 _ _ y5d)
            have HQc3 := Lib.hid (show (w2c.alloc (.cells #[.int .u8 77, .int .u8 78] 5)).cell? ⟨ob1, 5, none⟩ = some (.slice bA ob.length bc) from cell_keeps bc3 _ _ y5d)
            have HQc4 := Lib.hid (cell_keeps lc.2 _ _ y5d)
            have hww : IntKind.i64.wrap ((ob.length : Int) + 2) = (ob.length : Int) + 2 := by rw [IntKind.wrap_i64]; omega
            clear hz ra1 ra2 ra3 ba1 ba2 la rb1 rb2 rb3 bb1 bb2 bb3 lb rc2 rc3 bc1 bc2 bc3 lc y5d y0 y1 y2 y3 y4 y5 y6
            go_region_held3 (fun w' => w'.cell? ⟨ob1, 5, none⟩ = some (.slice bA ob.length bc))
              (first | with_reducible exact HQa3.out | with_reducible exact HQb4.out | with_reducible exact HQc4.out | with_reducible exact HQa2.out | with_reducible exact HQb3.out | with_reducible exact HQc2.out | with_reducible exact HQc3.out | with_reducible exact HQb2.out | with_reducible exact HQb1.out | with_reducible exact HQa1.out | with_reducible exact HQa0.out | exact HQ0.out)
              (first
                | ((with_reducible refine step_at w2a ?_); refine step_append_run (by rfl) _ _ _ (by rfl) (by rfl) (by rfl) HRa2.out ?_)
                | ((with_reducible refine step_at w2b ?_); refine step_append_run (by rfl) _ _ _ (by rfl) (by rfl) (by rfl) HRb2.out ?_)
                | ((with_reducible refine step_at (w2c.alloc (.cells #[.int .u8 77, .int .u8 78] 5)) ?_); refine step_append_run (by rfl) _ _ _ (by rfl) (by rfl) (by rfl) HRc2.out ?_)
                | ((with_reducible refine step_at w1a ?_); refine step_append_run (by rfl) _ _ _ (by rfl) (by rfl) (by rfl) HRa1.out ?_)
                | ((with_reducible refine step_at (w1b.alloc (.cells #[.int .u8 77, .int .u8 78] 5)) ?_); refine step_append_run (by rfl) _ _ _ (by rfl) (by rfl) (by rfl) HRb1.out ?_)
                | ((with_reducible refine step_at w1b ?_); refine step_append_run (by rfl) _ _ _ (by rfl) (by rfl) (by rfl) HRc1.out ?_))
            · go_wp2_with fail
              go_meet
              case rel => exact ⟨A3c, c3c, rfl, HLc⟩
            · go_wp2_with fail
              go_meet
              case rel => exact ⟨A3b, c3b, rfl, HLb⟩
            · go_wp2_with fail
              go_meet
              case rel => exact ⟨A3a, c3a, rfl, HLa⟩
        · have hk0 : decide (ok = 1) = false := decide_eq_false hk
          have hk1 : (ok == 1) = false := by simpa using hk
          go_wp2_with fail
          refine (fam_plays W1 HF1.out ok os on ox oy OK2.out OK3.out (HBY1.out.mono HE1.out) OK6.out (by have := HN.out.len; omega) HN.out.bnd).mono ?_
          rintro e w5 ⟨rfl, hf, ht⟩
          have HF5 := Lib.hid hf
          have HB5 := Lib.hid (ht.exBelow HE1.out HB1.out)
          have HX5 := Lib.hid (HX1.out.turn ht (fun h => h HE2.out))
          have HN5 : Hid (Nums (playStep All ok on ox oy ob) OUT WT (i + 1) (2 * i)) := Lib.hid ⟨by have := playStep_length All ok on ox oy ob; have := HN.out.len; omega, HN.out.bnd.play ok on ox oy OK6.out, HN.out.out, HN.out.outs, HN.out.wts, HN.out.wtss⟩
          clear hf ht y0 y1 y2 y3 y4 y5 y6 hk0 hk1 hk
          go_wp2_with fail
          go_meet
          case rel => exact ⟨_, rfl, rfl, rfl, HN5, HF5, HB5, HX5⟩
    · have hin : i = n := by omega
      subst hin
      have hdec : decide ((i : Int) < (i : Int)) = false := decide_eq_false (by omega)
      have HNn := Lib.hid HN.out
      clear HQ HN hi hil
      go_wp2_with fail
      go_loopg [17] OUT.length (fun k v17 wq => ∃ q : Nat, q ≤ OUT.length ∧ v17 = .int .i64 q ∧ k = OUT.length - q ∧ Hid (Fam wq (fun b => b < w.heap.size) (items pb rb All (.slice A5 OUT.length c5) (.slice A6 OUT.length c6) (.slice A7 WT.length c7) OUT WT)) ∧ Hid (Below w.heap.size w wq))
      case atStart => exact ⟨0, Nat.zero_le _, rfl, rfl, HF, HB⟩
      case round =>
        obtain ⟨q, hq, rfl, hqq, HFq, HBq⟩ := hrel
        have HQq := Lib.hid hqq
        clear hqq HF HB
        by_cases hql : q < OUT.length
        · obtain ⟨r, hr⟩ : ∃ r, OUT[q]? = some r := ⟨OUT[q], List.getElem?_eq_getElem hql⟩
          obtain ⟨_, hr1, _⟩ := HFq.out.tail.head
          obtain ⟨g5, e5, f5, z5, _⟩ := RowO.cell hr1 (j := q) (u := r.1) (by rw [List.getElem?_map, hr]; rfl)
          cases f5
          obtain ⟨_, hr1, _⟩ := HFq.out.tail.tail.head
          obtain ⟨g6, e6, f6, z6, _⟩ := RowO.cell hr1 (j := q) (u := strV r.2) (by rw [List.getElem?_map, hr]; rfl)
          cases f6
          obtain ⟨_, hro⟩ := (HFq.out.tail.tail.tail.tail.below (Below.drew (Below.refl _ _))).mem (i := rowItem 5 1 r.1 r.2.length (r.2.map U8)) (List.mem_append_left _ (List.mem_map_of_mem (List.mem_of_getElem? hr)))
          have s1 := (RowO.rowC hro).str
          obtain ⟨Ar, cr, ev, _⟩ := RowO.shape hro
          obtain ⟨r1, r2⟩ := r
          dsimp only at z5 z6 s1 ev
          subst ev
          unfold strV at z6
          clear hr1 hro hr
          have hlt : (q : Int) < (OUT.length : Int) := by omega
          have hq0 : (0 : Int) ≤ (q : Int) := by omega
          have hdq : decide ((q : Int) < (OUT.length : Int)) = true := decide_eq_true hlt
          have hol : OUT.length ≤ 4398046511104 := by have := HNn.out.out; omega
          go_wp2_with fail
          go_region_held3 (fun w' => (w'.cell? ⟨g5, q, none⟩ = some (.slice Ar r2.length cr) ∧ w'.cell? ⟨g6, q, none⟩ = some (.string ⟨r2.toArray⟩)) ∧ (convert 26 9 (.slice Ar r2.length cr)).run Try.prog w' = .ok (.string ⟨r2.toArray⟩) w')
            (exact ⟨⟨z5, z6⟩, s1⟩)
            (fail)
          go_wp2_with fail
          go_roundg (OUT.length - (q + 1))
          case measure => have := HQq.out; omega
          case rel => exact ⟨q + 1, by omega, by go_num, rfl, Lib.hid (HFq.out.below (Below.drew (Below.refl _ _))), Lib.hid (Below.drew HBq.out)⟩
        · have hdq : decide ((q : Int) < (OUT.length : Int)) = false := decide_eq_false (by omega)
          have HF2 := Lib.hid (items_two HFq.out)
          have HNo := Lib.hid (And.intro HNn.out.out HNn.out.outs)
          have HNl := Lib.hid HNn.out.len
          have HNb := Lib.hid HNn.out.bnd
          have HNw := Lib.hid (And.intro HNn.out.wts HNn.out.wtss)
          clear HFq HNn HQq
          go_wp2_with fail
          obtain ⟨NA, hNA⟩ : ∃ NA, All.length = NA := ⟨_, rfl⟩
          have HNA := Lib.hid (show NA ≤ 2199023255488 by rw [← hNA]; have := HNl.out; omega)
          go_loopg [5, 18] NA (fun k v5 v18 wq => ∃ (j : Nat) (All : List Md) (OUT : List (Value × List UInt8)), j ≤ NA ∧ All.length = NA ∧ v18 = .int .i64 (j + 1) ∧ k = NA - j ∧ Hid (BndB All) ∧ Hid (OUT.length ≤ 2 * i + j ∧ ∀ r, r ∈ OUT → r.2.length ≤ 140737488351232) ∧ Hid (Fam wq (fun b => b < w.heap.size) (items2 pb rb All v5 (.slice A7 WT.length c7) OUT WT)) ∧ Hid (Below w.heap.size w wq))
          case atStart => exact ⟨0, All, OUT, Nat.zero_le _, hNA, rfl, rfl, HNb, HNo, HF2, HBq⟩
          case round =>
            obtain ⟨j, All, OUT, hj, hAl, rfl, hjj, HBn, HO, HF3, HB3⟩ := hrel
            have HQj := Lib.hid hjj
            have HAl := Lib.hid hAl
            clear hjj hNA HF2 HBq HNo HNb HNl hAl
            obtain ⟨A5, c5, rfl, _⟩ := RowO.shape HF3.out.tail.tail.head.choose_spec.1
            obtain ⟨Ar, cr, y1⟩ := fam_len HF3.out.tail
            rw [HAl.out] at y1
            by_cases hjl : j < NA
            · have hna := HNA.out
              have hle : (j : Int) + 1 ≤ (NA : Int) := by omega
              have hdj : decide ((j : Int) + 1 ≤ (NA : Int)) = true := decide_eq_true hle
              obtain ⟨m, hm⟩ : ∃ m, (under All ((j : Int) + 1)).getD md0 = m := ⟨_, rfl⟩
              obtain ⟨er, her⟩ : ∃ er, errOf (under All ((j : Int) + 1)) = er := ⟨_, rfl⟩
              have HM := Lib.hid hm
              have HER := Lib.hid her
              have HML := Lib.hid (show m.b.length ≤ 140737488351232 by rw [← hm]; exact HBn.out.got _)
              have HLN := Lib.hid (show All.length < 2199023255552 by have := HAl.out; have := HNA.out; omega)
              have HKI := Lib.hid (show int64 ((j : Int) + 1) by unfold int64; have := HNA.out; omega)
              obtain ⟨L0, hL0⟩ : ∃ L0, rowsB OUT ++ rowsI WT = L0 := ⟨_, rfl⟩
              have hf0 := HF3.out
              unfold items2 at hf0
              rw [hL0] at hf0
              have HFs := Lib.hid hf0
              clear hm her hf0
              go_wp2_with fail
              refine (fam_take _ HFs.out ((j : Int) + 1) HKI.out HBn.out HM.out HER.out).mono ?_
              rintro e w1 ⟨Ab, cb, rfl, hf1, ht1⟩
              have hal := (Below.refl w1.heap.size w1).alloc (Nat.le_refl _) (.cells #[.int .i64 m.f, .int .i64 m.t, .slice Ab m.b.length cb] 31)
              have HFb := Lib.hid ((Fam.pull [rowItem 5 1 (.slice Ab m.b.length cb) m.b.length (m.b.map U8), poolItem pb (spentAt All ((j : Int) + 1))] _ hf1).fence hal)
              have HC := Lib.hid (Box3.new w1 (.int .i64 m.f) (.int .i64 m.t) (.slice Ab m.b.length cb))
              have HSb := Lib.hid (show (w1.alloc (.cells #[.int .i64 m.f, .int .i64 m.t, .slice Ab m.b.length cb] 31)).heap.size = w1.heap.size + 1 by simp)
              have hB1 := ht1.exBelow (fun b hb => hb) HB3.out
              have HB4 := Lib.hid (hB1.trans (hal.mono hB1.size))
              clear y1 hf1 hal hB1 HFs HB3 ht1
              go_wp2_with fail
              generalize w1.alloc (.cells #[.int .i64 m.f, .int .i64 m.t, .slice Ab m.b.length cb] 31) = W2 at *
              refine (fam_rspend W2 HFb.out ((j : Int) + 1) HKI.out HLN.out HM.out HER.out).mono ?_
              rintro e w3 ⟨rfl, hf3, ht3⟩
              have hal := (Below.refl w3.heap.size w3).alloc (Nat.le_refl _) (.cells #[.int .i64 m.f, .int .i64 m.t, .string ⟨m.b.toArray⟩, .bool false] 55)
              have HFd := Lib.hid (hf3.fence hal)
              have HSd := Lib.hid (show (w3.alloc (.cells #[.int .i64 m.f, .int .i64 m.t, .string ⟨m.b.toArray⟩, .bool false] 55)).heap.size = w3.heap.size + 1 by simp)
              have hB1 := ht3.exBelow (fun b hb => .inl hb) HB4.out
              have HB5 := Lib.hid (hB1.trans (hal.mono hB1.size))
              have HC5 := Lib.hid ((HC.out.turn ht3 (fun h => h (.inr ⟨Nat.le_refl _, by have := HSb.out; omega⟩))).below hal)
              have HD5 := Lib.hid (Box4.new w3 m.f m.t ⟨m.b.toArray⟩ false)
              clear hf3 hal hB1 HB4 HC HFb ht3
              obtain ⟨⟨r0, r1, r2⟩, _, _, _⟩ := HC5.out.bx
              obtain ⟨⟨t0, t1, t2, t3⟩, _, _, _, _⟩ := HD5.out.bx
              go_wp2_with fail
              generalize w3.alloc (.cells #[.int .i64 m.f, .int .i64 m.t, .string ⟨m.b.toArray⟩, .bool false] 55) = W4 at *
              refine (same_calls W4 m.f m.t m.b (RowO.bys HFd.out.tail.head.choose_spec.1 rfl) false).mono ?_
              rintro e w5 ⟨rfl, hb5⟩
              obtain ⟨A5', c5', w6, hr6, hf6, ht6⟩ := Fam.more (Fam.pull [refItem rb (spentAt All ((j : Int) + 1)), rowItem 5 1 (.slice Ab m.b.length cb) m.b.length (m.b.map U8), poolItem pb (spentAt All ((j : Int) + 1))] _ (HFd.out.below hb5)) 51 (.slice Ab m.b.length cb) Try.underlying51 info26 (by rfl) (by rfl) (by have := HO.out.1; have := HNA.out; unfold Fits; omega) (by have := HO.out.1; have := HNA.out; omega)
              have HR6 := Lib.hid hr6
              obtain ⟨⟨_, _, r2'⟩, _, _, _⟩ := (HC5.out.below hb5).bx
              have HB6 := Lib.hid (ht6.exBelow (fun b hb => .inl (.inl hb)) (HB5.out.trans (hb5.mono HB5.out.size)))
              have HF6 : Hid (Fam w6 (fun b => b < w.heap.size) (items2 pb rb (spentAt All ((j : Int) + 1)) (.slice A5' (OUT.length + 1) c5') (.slice A7 WT.length c7) (OUT ++ [(.slice Ab m.b.length cb, m.b)]) WT)) := Lib.hid (by
                rw [← hL0] at hf6
                have h := (hf6.less (ex' := fun b => b < w.heap.size) (fun b hb => .inl (.inl hb))).perm (perm_take _ _ _ _ _ (rowsB OUT) (rowsI WT))
                unfold items2
                rw [rowsB_append, List.length_append, List.map_append]
                exact h)
              have HO6 : Hid ((OUT ++ [((.slice Ab m.b.length cb : Value), m.b)]).length ≤ 2 * i + (j + 1) ∧ ∀ r, r ∈ OUT ++ [((.slice Ab m.b.length cb : Value), m.b)] → r.2.length ≤ 140737488351232) := Lib.hid ⟨by rw [List.length_append]; have := HO.out.1; simp; omega, fun r hr => by
                rcases List.mem_append.1 hr with hr | hr
                · exact HO.out.2 r hr
                · obtain rfl := List.mem_singleton.1 hr
                  exact HML.out⟩
              clear hr6 hf6 ht6 hb5 HFd HB5 HC5 HD5 r0 r1 r2 t0 t1 t2 t3
              go_wp2_with (at_builtin; (refine wpList_append_run rfl _ _ _ rfl rfl rfl HR6.out ?_))
              go_roundg (NA - (j + 1))
              case measure => have := HQj.out; omega
              case rel => exact ⟨j + 1, spentAt All ((j : Int) + 1), _, by omega, by rw [spentAt_length]; exact HAl.out, by go_num, rfl, Lib.hid (HBn.out.spent _), HO6, HF6, HB6⟩
            · have hle : ¬ (j : Int) + 1 ≤ (NA : Int) := by omega
              have hdj : decide ((j : Int) + 1 ≤ (NA : Int)) = false := decide_eq_false hle
              have HL := Lib.hid (show Fam wr (fun b => b < w.heap.size) (rowItem 26 1 (.slice A5 OUT.length c5) OUT.length (OUT.map (·.1)) :: (rowsB OUT ++ (rowItem 49 1 (.slice A7 WT.length c7) WT.length (WT.map (·.1)) :: (rowsI WT ++ [])))) from HF3.out.tail.tail.perm (perm_last _ _ (rowsB OUT) (rowsI WT)))
              have HLo := Lib.hid (show OUT.length ≤ 6597069766464 by have := HO.out.1; have := HNA.out; omega)
              have HLw := Lib.hid (show WT.length ≤ 5497558138880 by have := HNw.out.1; omega)
              have HLb := Lib.hid (show ∀ r, r ∈ OUT → r.2.length ≤ 140737488355300 from fun r hr => Nat.le_trans (HO.out.2 r hr) (by decide))
              have HLv := Lib.hid (show ∀ r, r ∈ WT → r.2.length ≤ 4398046511104 from fun r hr => Nat.le_trans (HNw.out.2 r hr) (by decide))
              clear HF3
              go_wp2_with (first
                | (go_at_call 25; (refine (apartInts_calls _ rfl HF7.out HLw.out HLv.out).mono ?_); rintro e w8 ⟨rfl, hf8, ht8⟩; have HB8 := Lib.hid (ht8.exBelow (fun b hb => hb) HB7.out); clear hf8 ht8)
                | (go_at_call 24; (refine (apart_calls _ rfl HL.out HLo.out HLb.out).mono ?_); rintro e w7 ⟨rfl, hf7, ht7⟩; have HF7 := Lib.hid hf7; have HB7 := Lib.hid (ht7.exBelow (fun b hb => hb) HB3.out); clear hf7 ht7))
              go_ret
              exact ⟨by simp, HB8.out⟩
end Go.Proofs.Ytdgcmihnbkamgaa
