/- SettleMemory: the walk of the statement. Condition: at most 1048576 pairs in each list. -/
import Derived.Test.YthpdemfehkoniaaSetMemP
namespace Go.Proofs.Ythpdemfehkoniaa.PSet
open Go.RowKit Go.Proofs.YthpdemfehkoniaaW.PrintWords Go.Proofs.YthpdemfehkoniaaW.PrintLast Go.Proofs.YthpdemfehkoniaaW.PrintMore Go.Proofs.YthpdemfehkoniaaW.AO
set_option linter.unusedVariables false
set_option linter.unusedSimpArgs false
theorem asks_calls' (N : Nat) (a0 : Int) (n : Nat) (h1n : 1 ≤ n) (hn : n ≤ 16) (hc : settle_clamp.f a0 = some (n : Int)) (hrep : barrowref26_Reps.f a0 = some (n : Int)) (AA AB : Option Addr) (nA cA nB cB : Nat) (full : Bool) (A1 A2 : Option Addr) (c1 c2 : Nat) (l : List S26) (hN : l.length = N) (w : World)
    (hr1 : Kd.C k26 w A1 l.length l) (hc1 : l.length ≤ c1) (hr2 : Kd.C k26 w A2 l.length l) (hc2 : l.length ≤ c2) (hl : l.length ≤ 1048576) :
    Calls Try.prog 26 #[.agg #[.int .i64 a0, .slice AA nA cA, .slice AB nB cB, .bool full], .slice A1 N c1, .slice A2 N c2] w fun e w' => e = .returned (.bool true) ∧ Below w.heap.size w w' := by
  subst hN
  exact asks_calls a0 n h1n hn hc hrep AA AB nA cA nB cB full A1 A2 c1 c2 l w hr1 hc1 hr2 hc2 hl
theorem enN : settle_Enough.f 500 1 ([] : List S26) = some true := by decide +kernel
theorem grN : settle_Reach.f 500 3 ([] : List S26) = some [[0], [1], [2]] := by decide +kernel
/-- The cells of the box that holds the struct. -/
def Box4 (w : World) (g : Nat) (a0 : Int) (VA VB : Value) (full : Bool) : Prop := w.cell? ⟨g, 0, none⟩ = some (.int .i64 a0) ∧ w.cell? ⟨g, 1, none⟩ = some VA ∧ w.cell? ⟨g, 2, none⟩ = some VB ∧ w.cell? ⟨g, 3, none⟩ = some (.bool full) ∧ g < w.heap.size
theorem Box4.below {w w1 : World} {g : Nat} {a0 : Int} {VA VB : Value} {full : Bool} (h : Box4 w g a0 VA VB full) {b : Nat} (hb : Below b w w1) (hg : g < b) (hs : w.heap.size ≤ w1.heap.size) : Box4 w1 g a0 VA VB full :=
  ⟨(hb.cell hg).trans h.1, (hb.cell hg).trans h.2.1, (hb.cell hg).trans h.2.2.1, (hb.cell hg).trans h.2.2.2.1, Nat.lt_of_lt_of_le h.2.2.2.2 hs⟩
attribute [local go_sem high] eqA26
def me16T : Bool × List (List Nat × List Nat) := (true, [([], []), ([], []), ([], []), ([2], [2]), ([], []), ([], []), ([5], [5]), ([6], [6]), ([4, 7], [4, 7]), ([3, 8], [3, 8]), ([9], [9]), ([0, 1, 0, 1, 2, 3, 4, 5, 6, 7, 8, 9, 10], [0, 1]), ([11, 10, 0, 1, 2, 3, 4, 5, 6, 7, 8, 9, 10], [10, 11])])
def me16B : List Nat := [0, 0, 0, 4, 0, 0, 32, 96, 240, 508, 1020, 2047, 4095]
theorem me16tab : rtab .any (opsOf Try.f8 16) = me16T := by kernel_rfl
theorem me16bits : waitsOk me16T.2 me16B = true := by kernel_rfl
set_option maxHeartbeats 16000000 in
set_option maxRecDepth 100000 in
theorem SettleMemory_calls (a0 : Int) (n : Nat) (h1n : 1 ≤ n) (hn : n ≤ 16) (hc : settle_clamp.f a0 = some (n : Int)) (hrep : barrowref26_Reps.f a0 = some (n : Int)) (full : Bool) (AA AB : Option Addr) (cA cB : Nat) (la lb : List S26) (w : World)
    (hrA : Kd.C k26 w AA la.length la) (hcA : la.length ≤ cA) (hrB : Kd.C k26 w AB lb.length lb) (hcB : lb.length ≤ cB) (hla : la.length ≤ 1048576) (hlb : lb.length ≤ 1048576) :
    Calls Try.prog 8 #[.agg #[.int .i64 a0, .slice AA la.length cA, .slice AB lb.length cB, .bool full]] w fun e w' => e = .returned (.bool true) ∧ Below w.heap.size w w' := by
  have hu26 := Try.underlying26
  obtain ⟨m, hm⟩ : ∃ m, lb.length = m := ⟨_, rfl⟩
  rw [hm] at hrB hcB hlb ⊢
  have HM := Aside0.mk hm
  clear hm
  have HLA := Aside0.mk hla
  have HLB := Aside0.mk hlb
  have HCA := Aside0.mk hcA
  have HCB := Aside0.mk hcB
  have HE := Aside0.mk hc
  have HN := Aside0.mk hrep
  have HRA0 := Aside0.mk hrA
  have HRB0 := Aside0.mk hrB
  clear hrA hrB hcA hcB hla hlb hc hrep
  go_enter Try.func8, Try.ntmps8
  go_upto_region 1 with (fail)
  have hbox : Box4 (w.alloc (.cells #[.int .i64 a0, .slice AA la.length cA, .slice AB m cB, .bool full] 53)) w.heap.size a0 (.slice AA la.length cA) (.slice AB m cB) full := ⟨by simp [go_sem], by simp [go_sem], by simp [go_sem], by simp [go_sem], by simp⟩
  have hb1 := below_alloc (Below.refl w.heap.size w) (.cells #[.int .i64 a0, .slice AA la.length cA, .slice AB m cB, .bool full] 53)
  obtain ⟨g, hg⟩ : ∃ g, w.heap.size = g := ⟨_, rfl⟩
  have HRA := Aside0.mk (Kd.C_below HRA0.out hb1)
  have HRB := Aside0.mk (Kd.C_below HRB0.out hb1)
  generalize (w.alloc (.cells #[.int .i64 a0, .slice AA la.length cA, .slice AB m cB, .bool full] 53)) = w1 at hbox hb1 HRA HRB ⊢
  have HB1 := Aside0.mk hb1
  rw [hg] at hbox ⊢
  have HX := Aside0.mk hbox
  have HB0 := Aside0.mk (Below.refl w1.heap.size w1)
  have HO0 := Aside0.mk (AO.nil w1 w1.heap.size)
  obtain ⟨hx0, hx1, hx2, hx3, _⟩ := hbox
  have hg1 : g < w1.heap.size := HX.out.2.2.2.2
  clear hb1 hg HRA0 HRB0
  go_wp2_with (first
    | ((with_reducible refine gate_callee (f := 25) rfl ?_); refine goesL_ (some 9) rfl rfl Try.func25 (by kernel_rfl) rfl #[.int .i64 1, .slice none ([] : List S26).length 0] rfl (by (simp only [List.map_toArray, List.map_cons, List.map_nil]; first | done | rfl)) ?_; (refine (settle_Enough.calls 500 1 none 0 [] true _ (Kd.C_nil _ _) (Nat.le_refl _) enN).mono ?_); rintro e w9 ⟨rfl, hb9⟩; refine ⟨_, rfl, ?_⟩; have HO9 := Aside0.mk (HO0.out.below hb9); have HB9 := Aside0.mk (below_step HB0.out hb9); clear hb9 HO0 HB0; clear hx0 hx1 hx2 hx3; obtain ⟨hx0, hx1, hx2, hx3, _⟩ := HX.out.below HB9.out hg1 HB9.out.size)
    | (go_at_call 20; (refine (settle_Reach.calls 500 3 none 0 [] _ _ (Kd.C_nil _ _) (Nat.le_refl _) grN).mono ?_); rintro e w12 ⟨v12, rfl, ho12, hb12⟩; have HO12 := Aside0.mk (HO9.out.push hb12 HB9.out.size (Kd.S_R ho12)); have HB12 := Aside0.mk (below_step HB9.out hb12); clear ho12 hb12 HO9 HB9; obtain ⟨A12, c12, rfl, hc12, _⟩ := HO12.out.reads (i := 0) rfl; have HD12 := Aside0.mk hc12; clear hc12; clear hx0 hx1 hx2 hx3; obtain ⟨hx0, hx1, hx2, hx3, _⟩ := HX.out.below HB12.out hg1 HB12.out.size)
    | ((with_reducible refine gate_callee (f := 12) rfl ?_); refine goesL_ (some 18) rfl rfl Try.func12 (by kernel_rfl) rfl #[.slice AA la.length cA] rfl (by (simp only [List.map_toArray, List.map_cons, List.map_nil, List.length_map]; first | done | rfl)) ?_; (refine (barrowlaw26_copyPairs.calls AA cA la la _ (Kd.C_below HRA.out HB12.out) HCA.out (copyPairs_self la (by have := HLA.out; omega))).mono ?_); rintro e w18 ⟨v18, rfl, ho18, hb18⟩; refine ⟨_, rfl, ?_⟩; have HO18 := Aside0.mk (HO12.out.push hb18 HB12.out.size ho18); have HB18 := Aside0.mk (below_step HB12.out hb18); clear ho18 hb18 HO12 HB12; obtain ⟨A18, c18, rfl, hc18, _⟩ := HO18.out.reads (i := 0) rfl; have HD18 := Aside0.mk hc18; clear hc18; clear hx0 hx1 hx2 hx3; obtain ⟨hx0, hx1, hx2, hx3, _⟩ := HX.out.below HB18.out hg1 HB18.out.size))
  have HO19 := Aside0.mk (HO18.out.only (i := 0) rfl)
  have HB19 := HB18
  clear HO18 HB18 hx0 hx1 hx2 hx3
  go_loopg [3, 4] 70 (fun k v3 v4 wr => ∃ i : Nat, i ≤ 70 ∧ v4 = .int .i64 i ∧ Aside0 (k + i = 70) ∧ Aside0 (AO wr w1.heap.size [⟨k26, 26, v3, la ++ (List.range i).map rr⟩]) ∧ Aside0 (Below w1.heap.size w1 wr))
  case atStart => exact ⟨0, Nat.zero_le _, rfl, ⟨by omega⟩, ⟨by simpa using HO19.out⟩, HB19⟩
  case round =>
    obtain ⟨i, hi, rfl, HK, HOr, HBr⟩ := hrel
    clear HO19 HB19
    by_cases hlt : i < 70
    · go_wp2_with (first | ((with_reducible refine gate_builtin (b := .append) (xs := #[.tmp 23, .tmp 26]) rfl ?_); at_builtin; go_must (refine AO.append (w0 := w1) (base := w1.heap.size) (L := [⟨k26, 26, u3, la ++ (List.range i).map rr⟩]) 0 k26 (la ++ (List.range i).map rr) (rr i) [.int .i64 (-7), .int .i64 (i : Int)] rfl (.tmp 23) (.tmp 26) 22 26 _ 16 u3 rfl Try.underlying22 info26 rfl ?hs_a ?hb_a rfl ?hx_a ?hp_a ?h_a rfl ?HB_a ?hbs_a ?hl_a ?_); (case hs_a => decide); (case hb_a => decide); (case hx_a => first | (go_simp; done) | (go_simp; rfl)); (case hp_a => exact k26_mkM _ _ _ (rr i)); (case h_a => exact HOr.out); (case HB_a => exact HBr.out); (case hbs_a => exact HBr.out.size); (case hl_a => have := HLA.out; simp; omega); intro v6 w6 ho hb hs; have HO6 := Aside0.mk ho; have HB6 := Aside0.mk hb; clear ho hb hs))
      go_roundg (70 - (i + 1))
      case measure => have := HK.out; omega
      case rel => exact ⟨i + 1, by omega, by go_num, ⟨by omega⟩, ⟨by have h := HO6.out; rw [List.set_cons_zero, tl_snoc] at h; exact h⟩, HB6⟩
    · have HO20 := Aside0.mk (show AO wr w1.heap.size [⟨k26, 26, u3, la ++ tl⟩] by have h := HOr.out; rw [show i = 70 by omega] at h; exact h)
      have HB20 := HBr
      clear HOr HBr HK
      obtain ⟨gr, cr, e3, hgr⟩ := HO20.out.form (i := 0) rfl (by simp [tl])
      rw [List.length_append, show tl.length = 70 by simp [tl]] at e3
      obtain ⟨A3, c3, e3', hcr, _⟩ := HO20.out.reads (i := 0) rfl
      rw [List.length_append, show tl.length = 70 by simp [tl], e3] at e3'
      rw [List.length_append, show tl.length = 70 by simp [tl]] at hcr
      obtain ⟨n70, hn70⟩ : ∃ q, la.length + 70 = q := ⟨_, rfl⟩
      rw [hn70] at e3 hcr e3'
      obtain rfl : cr = c3 := by injection e3'
      have HN7 := Aside0.mk hn70
      have HCR := Aside0.mk hcr
      clear hn70 e3' hcr
      subst e3
      obtain ⟨hx0, hx1, hx2, hx3, _⟩ := HX.out.below HB20.out hg1 HB20.out.size
      have hle : (la.length : Int) ≤ (cr : Int) := by have := HN7.out; have := HCR.out; omega
      have hC20 : Kd.C k26 wr (some ⟨gr, 0, none⟩) la.length la := by
        obtain ⟨_, _, e4, _, hC⟩ := HO20.out.reads (i := 0) rfl
        injection e4 with e5 _ _
        rw [← e5] at hC
        have h := Kd.C_take (m := la.length) hC (by simp)
        rw [List.take_left] at h
        exact h
      have HC20 := Aside0.mk hC20
      clear hC20
      go_wp2_with (first
        | ((with_reducible refine gate_callee (f := 26) rfl ?_); refine goesL_ (some 37) rfl rfl Try.func26 (by kernel_rfl) rfl #[.agg #[.int .i64 a0, .slice AA la.length cA, .slice AB m cB, .bool full], .slice (some ⟨gr, 0, none⟩) la.length cr, .slice AA la.length cA] rfl (by (simp only [List.map_toArray, List.map_cons, List.map_nil, List.length_map]; first | done | rfl)) ?_; (refine (asks_calls a0 n h1n hn HE.out HN.out AA AB la.length cA m cB full (some ⟨gr, 0, none⟩) AA cr cA la _ HC20.out (by have := HN7.out; have := HCR.out; omega) (Kd.C_below HRA.out HB20.out) HCA.out HLA.out).mono ?_); rintro e w37 ⟨rfl, hb⟩; refine ⟨_, rfl, ?_⟩; have HO37 := Aside0.mk (HO20.out.below hb); have HB37 := Aside0.mk (below_step HB20.out hb); clear hb HO20 HB20 HC20; clear hx0 hx1 hx2 hx3; obtain ⟨hx0, hx1, hx2, hx3, _⟩ := HX.out.below HB37.out hg1 HB37.out.size)
        | ((with_reducible refine gate_callee (f := 12) rfl ?_); refine goesL_ (some 41) rfl rfl Try.func12 (by kernel_rfl) rfl #[.slice AA la.length cA] rfl (by (simp only [List.map_toArray, List.map_cons, List.map_nil, List.length_map]; first | done | rfl)) ?_; (refine (barrowlaw26_copyPairs.calls AA cA la la _ (Kd.C_below HRA.out HB37.out) HCA.out (copyPairs_self la (by have := HLA.out; omega))).mono ?_); rintro e w41 ⟨v41, rfl, ho41, hb41⟩; refine ⟨_, rfl, ?_⟩; have HO41 := Aside0.mk (HO37.out.push hb41 HB37.out.size ho41); have HB41 := Aside0.mk (below_step HB37.out hb41); clear ho41 hb41 HO37 HB37; obtain ⟨A41, c41, rfl, hc41, _⟩ := HO41.out.reads (i := 0) rfl; have HD41 := Aside0.mk hc41; clear hc41))
      have hlr := Kd.C_max (Kd.R_reads' (HO41.out.own (i := 0) rfl)).2.2
      obtain ⟨N, hN⟩ : ∃ N, la.length = N := ⟨_, rfl⟩
      have hNb : N ≤ 1048576 := by have := HLA.out; omega
      have HLN := Aside0.mk hN
      have HO42 := Aside0.mk (show AO w41 w1.heap.size [⟨k26, 26, .slice A41 N c41, nxt la lb 0⟩, ⟨k26, 26, .slice (some ⟨gr, 0, none⟩) n70 cr, nxt la lb 0 ++ tl⟩] by rw [nxt_zero, ← hN]; exact HO41.out)
      have HB42 := HB41
      rw [hN] at hle ⊢
      clear HO41 HB41 hN hlr hx0 hx1 hx2 hx3
      go_loopg [44] N (fun k v44 wr => ∃ i : Nat, i ≤ N ∧ v44 = .int .i64 i ∧ Aside0 (k + i = N) ∧ Aside0 (AO wr w1.heap.size [⟨k26, 26, .slice A41 N c41, nxt la lb i⟩, ⟨k26, 26, .slice (some ⟨gr, 0, none⟩) n70 cr, nxt la lb i ++ tl⟩]) ∧ Aside0 (Below w1.heap.size w1 wr))
      case atStart => exact ⟨0, Nat.zero_le _, rfl, ⟨by omega⟩, HO42, HB42⟩
      case round =>
        obtain ⟨i, hi, rfl, HK, HOr, HBr⟩ := hrel
        clear HO42 HB42
        by_cases hlt : i < N
        · have HLT := Aside0.mk hlt
          have hib : i < 1048576 := by omega
          obtain ⟨gn, cn, en, _⟩ := HOr.out.form (i := 0) rfl (by rw [nxt_len la lb i (by rw [HLN.out]; exact hi), HLN.out]; omega)
          obtain rfl : A41 = some ⟨gn, 0, none⟩ := by injection en
          clear en
          obtain ⟨hx0, hx1, hx2, hx3, _⟩ := HX.out.below HBr.out hg1 HBr.out.size
          obtain ⟨p, hp⟩ : ∃ p, fB la lb i = p := ⟨_, rfl⟩
          have HP := Aside0.mk hp
          clear hp
          by_cases hm0 : m = 0
          · have HM0 := Aside0.mk hm0
            have HO5 := Aside0.mk (show AO wr w1.heap.size [⟨k26, 26, .slice (some ⟨gn, 0, none⟩) N c41, nxt la lb (i + 1)⟩, ⟨k26, 26, .slice (some ⟨gr, 0, none⟩) n70 cr, nxt la lb i ++ tl⟩] by rw [nxt_skip la lb i (by rw [HLN.out]; exact hlt) (by rw [HM.out]; exact hm0)]; exact HOr.out)
            have HB5 := HBr
            have hz1 : decide ((0 : Int) < (m : Int)) = false := decide_eq_false (by omega)
            have hz2 : decide (0 < m) = false := decide_eq_false (by omega)
            clear HOr HBr hm0
            go_upto_region 17 with (fail)
            clear hx0 hx1 hx2 hx3 hz1 hz2
            obtain ⟨hx0, hx1, hx2, hx3, _⟩ := HX.out.below HB5.out hg1 HB5.out.size
            have hrd := nxt_get la lb i (by rw [HLN.out]; exact HLT.out) []
            rw [List.append_nil, HP.out] at hrd
            obtain ⟨cs5, _, hM5, hcc5, _⟩ := HO5.out.elem (i := 0) rfl z26 (i : Int) (by omega) (by have := HLT.out; omega)
            rw [show (nxt la lb (i + 1)).getD (i : Int).toNat z26 = p from hrd] at hM5
            obtain rfl := k26_openM hM5
            have y5 := hcc5 0 _ rfl
            have y6 := hcc5 1 _ rfl
            simp only [Int.toNat_natCast, Nat.add_zero, show k26.sz = 2 from rfl] at y5 y6
            clear hM5 hcc5
            have hi70 : (i : Int) < (N : Int) := by have := HLT.out; omega
            have hir : (i : Int) < (n70 : Int) := by have := HN7.out; have := HLT.out; have := HLN.out; omega
            clear hrd
            go_wp2_with (first | ((with_reducible refine gate_store (t := 26) (p := 69) rfl ?_); go_must (refine AO.store (w0 := w1) (base := w1.heap.size) (L := [⟨k26, 26, .slice (some ⟨gn, 0, none⟩) N c41, nxt la lb (i + 1)⟩, ⟨k26, 26, .slice (some ⟨gr, 0, none⟩) n70 cr, nxt la lb i ++ tl⟩]) 1 k26 rfl rfl 26 (.tmp 69) (.tmp 68) rfl 26 (g := gr) (o' := i * 2) (n := n70) (cap := cr) (i : Int) (nxt la lb i ++ tl) z26 (fB la lb i) (.agg #[.int .i64 p.f0, .int .i64 p.f1]) [.int .i64 p.f0, .int .i64 p.f1] ?ha_t1 ?hoff_t1 ?hx_t1 ?hu_t1 ?ht_t1 ?h1_t1 ?hsz_t1 ?h_t1 ?hi_t1 ?h0_t1 ?hj_t1 ?hM_t1 ?HB_t1 ?_); (case ha_t1 => first | (go_simp; done) | (go_simp; rfl)); (case hoff_t1 => first | rfl | simp [k26, Kd.iso, Kd.pair, Kd.int, Kd.scalar]); (case hx_t1 => first | (go_simp; done) | (go_simp; rfl)); (case hu_t1 => rfl); (case hsz_t1 => rfl); (case h0_t1 => omega); (case hj_t1 => exact hir); (case ht_t1 => kernel_rfl); (case h1_t1 => simp [Value.oneCell']); (case h_t1 => exact HO5.out); (case hi_t1 => rfl); (case hM_t1 => rw [HP.out]; exact k26_mkM _ _ _ p); (case HB_t1 => exact HB5.out); intro w6 ho hb hs; have HO6 := Aside0.mk ho; have HB6 := Aside0.mk hb; clear ho hb hs))
            go_roundg (N - (i + 1))
            case measure => have := HK.out; have := HLT.out; omega
            case rel => exact ⟨i + 1, by have := HLT.out; omega, by go_num, ⟨by have := HLT.out; have := HK.out; omega⟩, ⟨by
              have h := HO6.out
              rw [List.set_cons_succ, List.set_cons_zero, Int.toNat_natCast, nxt_set la lb i (by rw [HLN.out]; exact HLT.out) tl] at h
              exact h⟩, HB6⟩
          · have hz1 : decide ((0 : Int) < (m : Int)) = true := decide_eq_true (by omega)
            have hz2 : decide (0 < m) = true := decide_eq_true (by omega)
            obtain ⟨t, ht⟩ : ∃ t, i % m = t := ⟨_, rfl⟩
            have htm : t < m := by rw [← ht]; exact Nat.mod_lt _ (by omega)
            obtain ⟨adb, eb, y0, y1⟩ := at_T26 HRB.out (t : Int) (by omega) (by omega)
            have hpt : rd_T26 lb (t : Int) = p := by
              rw [← HP.out]; unfold fB rd_T26
              rw [if_neg (by rw [HM.out]; exact hm0), HM.out, ht, Int.toNat_natCast]
            rw [hpt] at y0 y1
            cases eb
            simp only [Int.toNat_natCast] at y0 y1
            have ly0 := World.block_lt_of_cell? w1 _ y0
            have ly1 := World.block_lt_of_cell? w1 _ y1
            have HOz := HOr
            have HBz := HBr
            clear HOr HBr
            go_upto_region 16 with (fail)
            have hmz : (m : Int) ≠ 0 := by omega
            have hrem : Int.tmod (i : Int) (m : Int) = (t : Int) := by rw [← ht]; exact (Int.ofNat_tmod i m).symm
            have htI : (t : Int) < (m : Int) := by omega
            have hiI : (i : Int) < (N : Int) := by omega
            clear hpt ht hx0 hx1 hx2 hx3 hz1 hz2
            refine start_ (n := 13) (S := fun w' => w'.cell? ⟨g, 2, none⟩ = some (.slice (some adb) m cB) ∧ w'.cell? (adb.add (t * 2)) = some (.int .i64 p.f0) ∧ w'.cell? ⟨(adb.add (t * 2)).block, (adb.add (t * 2)).off + 1, none⟩ = some (.int .i64 p.f1)) (ds := []) #[false, false, false, false, false, false, false, false, false, false, false, false, false] (by kernel_rfl) rfl rfl (⟨(HX.out.below (HBz.out.drew) hg1 ((HBz.out.drew)).size).2.2.1, (((HBz.out.drew)).cell ly0).trans y0, (((HBz.out.drew)).cell ly1).trans y1⟩) (fun hHeld => ?_)
            refine with_tabW me16tab me16bits (fun HT_ HW_ => ?_)
            have HOd := Aside0.mk HOz.out.drew
            have HBd := Aside0.mk HBz.out.drew
            generalize wr.drew = wd at HOd HBd hHeld ⊢
            clear HOz HBz
            refine pure_ (i := 0) (N := some 51) (v := ?_) (a' := ?_) #[true, false, false, false, false, false, false, false, false, false, false, false, false] rfl rfl (any_of HT_.out (by kernel_rfl)) (fun _ _ _ h => h) (Or.inl ⟨by rfl, ?_⟩) ?_ ?_
            rotate_left
            · intro w'
              go_simp
              with_reducible rfl
            rotate_left
            · simp only [Act.put, List.setIfInBounds_toArray, List.set_cons_zero, List.set_cons_succ]
              rfl
            refine pure_ (i := 1) (N := some 52) (v := ?_) (a' := ?_) #[true, true, false, false, false, false, false, false, false, false, false, false, false] rfl rfl (any_of HT_.out (by kernel_rfl)) (fun _ _ _ h => h) (Or.inl ⟨by rfl, ?_⟩) ?_ ?_
            rotate_left
            · intro w'
              go_simp
              with_reducible rfl
            rotate_left
            · simp only [Act.put, List.setIfInBounds_toArray, List.set_cons_zero, List.set_cons_succ]
              rfl
            refine pure_ (i := 2) (N := some 53) (v := ?_) (a' := ?_) #[true, true, true, false, false, false, false, false, false, false, false, false, false] rfl rfl (any_of HT_.out (by kernel_rfl)) (fun _ _ _ h => h) (Or.inl ⟨by rfl, ?_⟩) ?_ ?_
            rotate_left
            · intro w'
              go_simp
              with_reducible rfl
            rotate_left
            · simp only [Act.put, List.setIfInBounds_toArray, List.set_cons_zero, List.set_cons_succ]
              rfl
            refine take_ (i := 3) (N := some 54) (v := ?_) (a' := ?_) #[true, true, true, true, false, false, false, false, false, false, false, false, false] rfl rfl (take_ofW HT_.out HW_.out (by kernel_rfl)) (fun _ _ _ h => h) (Or.inl ⟨by rfl, ?_⟩) hHeld ?_ ?_
            rotate_left
            · rintro w' ⟨s0, s1, s2⟩
              go_simp
              with_reducible rfl
            rotate_left
            · simp only [Act.put, List.setIfInBounds_toArray, List.set_cons_zero, List.set_cons_succ]
              rfl
            refine pure_ (i := 4) (N := some 55) (v := ?_) (a' := ?_) #[true, true, true, true, true, false, false, false, false, false, false, false, false] rfl rfl (any_of HT_.out (by kernel_rfl)) (fun _ _ _ h => h) (Or.inl ⟨by rfl, ?_⟩) ?_ ?_
            rotate_left
            · intro w'
              go_simp
              with_reducible rfl
            rotate_left
            · simp only [Act.put, List.setIfInBounds_toArray, List.set_cons_zero, List.set_cons_succ]
              rfl
            refine pure_ (i := 5) (N := some 56) (v := ?_) (a' := ?_) #[true, true, true, true, true, true, false, false, false, false, false, false, false] rfl rfl (any_of HT_.out (by kernel_rfl)) (fun _ _ _ h => h) (Or.inl ⟨by rfl, ?_⟩) ?_ ?_
            rotate_left
            · intro w'
              go_simp
              with_reducible rfl
            rotate_left
            · simp only [Act.put, List.setIfInBounds_toArray, List.set_cons_zero, List.set_cons_succ]
              rfl
            refine take_ (i := 6) (N := some 57) (v := ?_) (a' := ?_) #[true, true, true, true, true, true, true, false, false, false, false, false, false] rfl rfl (take_ofW HT_.out HW_.out (by kernel_rfl)) (fun _ _ _ h => h) (Or.inl ⟨by rfl, ?_⟩) hHeld ?_ ?_
            rotate_left
            · rintro w' ⟨s0, s1, s2⟩
              go_simp
              with_reducible rfl
            rotate_left
            · simp only [Act.put, List.setIfInBounds_toArray, List.set_cons_zero, List.set_cons_succ]
              rfl
            refine pure_ (i := 7) (N := some 58) (v := ?_) (a' := ?_) #[true, true, true, true, true, true, true, true, false, false, false, false, false] rfl rfl (any_of HT_.out (by kernel_rfl)) (fun _ _ _ h => h) (Or.inl ⟨by rfl, ?_⟩) ?_ ?_
            rotate_left
            · intro w'
              go_simp
              with_reducible rfl
            rotate_left
            · simp only [Act.put, List.setIfInBounds_toArray, List.set_cons_zero, List.set_cons_succ]
              rfl
            refine pure_ (i := 8) (N := some 59) (v := ?_) (a' := ?_) #[true, true, true, true, true, true, true, true, true, false, false, false, false] rfl rfl (any_of HT_.out (by kernel_rfl)) (fun _ _ _ h => h) (Or.inl ⟨by rfl, ?_⟩) ?_ ?_
            rotate_left
            · intro w'
              go_simp
              with_reducible rfl
            rotate_left
            · simp only [Act.put, List.setIfInBounds_toArray, List.set_cons_zero, List.set_cons_succ]
              rfl
            refine pure_ (i := 9) (N := some 60) (v := ?_) (a' := ?_) #[true, true, true, true, true, true, true, true, true, true, false, false, false] rfl rfl (any_of HT_.out (by kernel_rfl)) (fun _ _ _ h => h) (Or.inl ⟨by rfl, ?_⟩) ?_ ?_
            rotate_left
            · intro w'
              go_simp
              with_reducible rfl
            rotate_left
            · simp only [Act.put, List.setIfInBounds_toArray, List.set_cons_zero, List.set_cons_succ]
              rfl
            refine take_ (i := 10) (N := some 61) (v := ?_) (a' := ?_) #[true, true, true, true, true, true, true, true, true, true, true, false, false] rfl rfl (take_ofW HT_.out HW_.out (by kernel_rfl)) (fun _ _ _ h => h) (Or.inl ⟨by rfl, ?_⟩) hHeld ?_ ?_
            rotate_left
            · rintro w' ⟨s0, s1, s2⟩
              go_simp
              with_reducible rfl
            rotate_left
            · simp only [Act.put, List.setIfInBounds_toArray, List.set_cons_zero, List.set_cons_succ]
              rfl
            refine pure_ (i := 11) (N := some 62) (v := ?_) (a' := ?_) #[true, true, true, true, true, true, true, true, true, true, true, true, false] rfl rfl (any_of HT_.out (by kernel_rfl)) (fun _ _ _ h => h) (Or.inl ⟨by rfl, ?_⟩) ?_ ?_
            rotate_left
            · intro w'
              go_simp
              with_reducible rfl
            rotate_left
            · simp only [Act.put, List.setIfInBounds_toArray, List.set_cons_zero, List.set_cons_succ]
              rfl
            refine one_ (i := 12) (N := none) #[true, true, true, true, true, true, true, true, true, true, true, true, true] rfl rfl (one_of HT_.out (by kernel_rfl)) (by decide) (fun K hK => ?_)
            refine AO.store_step (w0 := w1) (base := w1.heap.size) (L := [⟨k26, 26, .slice (some ⟨gn, 0, none⟩) N c41, nxt la lb i⟩, ⟨k26, 26, .slice (some ⟨gr, 0, none⟩) n70 cr, nxt la lb i ++ tl⟩]) 0 k26 rfl rfl rfl 26 (.tmp 62) (.tmp 61) rfl 26 (g := gn) (o' := i * 2) (n := N) (cap := c41) (i : Int) (nxt la lb i) z26 (fB la lb i) (.agg #[.int .i64 p.f0, .int .i64 p.f1]) [.int .i64 p.f0, .int .i64 p.f1] ?ha_s ?hoff_s ?hx_s ?hu_s ?ht_s ?h1_s ?hsz_s ?h_s ?hi_s ?h0_s ?hj_s ?hM_s ?HB_s ?_
            case ha_s => first | (go_simp; done) | (go_simp; rfl)
            case hoff_s => first | rfl | simp [k26, Kd.iso, Kd.pair, Kd.int, Kd.scalar]
            case hx_s => first | (go_simp; done) | (go_simp; rfl)
            case hu_s => rfl
            case hsz_s => rfl
            case h0_s => omega
            case hj_s => omega
            case ht_s => kernel_rfl
            case h1_s => simp [Value.oneCell']
            case h_s => exact HOd.out
            case hi_s => rfl
            case hM_s => rw [HP.out]; exact k26_mkM _ _ _ p
            case HB_s => exact HBd.out
            intro w5 ho hb hs
            have HO5 := Aside0.mk (show AO w5 w1.heap.size [⟨k26, 26, .slice (some ⟨gn, 0, none⟩) N c41, nxt la lb (i + 1)⟩, ⟨k26, 26, .slice (some ⟨gr, 0, none⟩) n70 cr, nxt la lb i ++ tl⟩] by
              have h := ho
              rw [List.set_cons_zero, Int.toNat_natCast] at h
              have e := nxt_set la lb i (by rw [HLN.out]; exact HLT.out) []
              rw [List.append_nil, List.append_nil] at e
              rw [e] at h
              exact h)
            have HB5 := Aside0.mk hb
            clear ho hb hs HOd HBd
            refine hK.out _ _ ⟨(HX.out.below HB5.out hg1 (HB5.out).size).2.2.1, ((HB5.out).cell ly0).trans y0, ((HB5.out).cell ly1).trans y1⟩ (fun hHeld => ?_)
            clear hK K
            refine done_ (done_of HT_.out (by kernel_rfl)) ?_
            clear HT_ HW_
            clear hHeld y0 y1 ly0 ly1 hmz hrem htI hiI
            go_upto_region 17 with (fail)
            obtain ⟨hx0, hx1, hx2, hx3, _⟩ := HX.out.below HB5.out hg1 HB5.out.size
            have hrd := nxt_get la lb i (by rw [HLN.out]; exact HLT.out) []
            rw [List.append_nil, HP.out] at hrd
            obtain ⟨cs5, _, hM5, hcc5, _⟩ := HO5.out.elem (i := 0) rfl z26 (i : Int) (by omega) (by have := HLT.out; omega)
            rw [show (nxt la lb (i + 1)).getD (i : Int).toNat z26 = p from hrd] at hM5
            obtain rfl := k26_openM hM5
            have y5 := hcc5 0 _ rfl
            have y6 := hcc5 1 _ rfl
            simp only [Int.toNat_natCast, Nat.add_zero, show k26.sz = 2 from rfl] at y5 y6
            clear hM5 hcc5
            have hi70 : (i : Int) < (N : Int) := by have := HLT.out; omega
            have hir : (i : Int) < (n70 : Int) := by have := HN7.out; have := HLT.out; have := HLN.out; omega
            clear hrd
            go_wp2_with (first | ((with_reducible refine gate_store (t := 26) (p := 69) rfl ?_); go_must (refine AO.store (w0 := w1) (base := w1.heap.size) (L := [⟨k26, 26, .slice (some ⟨gn, 0, none⟩) N c41, nxt la lb (i + 1)⟩, ⟨k26, 26, .slice (some ⟨gr, 0, none⟩) n70 cr, nxt la lb i ++ tl⟩]) 1 k26 rfl rfl 26 (.tmp 69) (.tmp 68) rfl 26 (g := gr) (o' := i * 2) (n := n70) (cap := cr) (i : Int) (nxt la lb i ++ tl) z26 (fB la lb i) (.agg #[.int .i64 p.f0, .int .i64 p.f1]) [.int .i64 p.f0, .int .i64 p.f1] ?ha_t2 ?hoff_t2 ?hx_t2 ?hu_t2 ?ht_t2 ?h1_t2 ?hsz_t2 ?h_t2 ?hi_t2 ?h0_t2 ?hj_t2 ?hM_t2 ?HB_t2 ?_); (case ha_t2 => first | (go_simp; done) | (go_simp; rfl)); (case hoff_t2 => first | rfl | simp [k26, Kd.iso, Kd.pair, Kd.int, Kd.scalar]); (case hx_t2 => first | (go_simp; done) | (go_simp; rfl)); (case hu_t2 => rfl); (case hsz_t2 => rfl); (case h0_t2 => omega); (case hj_t2 => exact hir); (case ht_t2 => kernel_rfl); (case h1_t2 => simp [Value.oneCell']); (case h_t2 => exact HO5.out); (case hi_t2 => rfl); (case hM_t2 => rw [HP.out]; exact k26_mkM _ _ _ p); (case HB_t2 => exact HB5.out); intro w6 ho hb hs; have HO6 := Aside0.mk ho; have HB6 := Aside0.mk hb; clear ho hb hs))
            go_roundg (N - (i + 1))
            case measure => have := HK.out; have := HLT.out; omega
            case rel => exact ⟨i + 1, by have := HLT.out; omega, by go_num, ⟨by have := HLT.out; have := HK.out; omega⟩, ⟨by
              have h := HO6.out
              rw [List.set_cons_succ, List.set_cons_zero, Int.toNat_natCast, nxt_set la lb i (by rw [HLN.out]; exact HLT.out) tl] at h
              exact h⟩, HB6⟩
        · have hiN : i = N := by omega
          have HO50a := Aside0.mk (show AO wr w1.heap.size [⟨k26, 26, .slice A41 N c41, nxt la lb N⟩, ⟨k26, 26, .slice (some ⟨gr, 0, none⟩) n70 cr, nxt la lb N ++ tl⟩] by have h := HOr.out; rw [hiN] at h; exact h)
          have HB50 := HBr
          obtain ⟨l2, hl2⟩ : ∃ q, nxt la lb N = q := ⟨_, rfl⟩
          have hl2n : l2.length = N := by rw [← hl2, nxt_len la lb N (by rw [HLN.out]; exact Nat.le_refl _), HLN.out]
          rw [hl2] at HO50a
          have HO50 := HO50a
          have HL2 := Aside0.mk hl2n
          obtain ⟨_, _, e4, _, hC4⟩ := HO50.out.reads (i := 1) rfl
          obtain ⟨_, _, e5, _, hC5⟩ := HO50.out.reads (i := 0) rfl
          injection e4 with e4 e4b e4c
          clear e4b e4c
          injection e5 with e5 e5b e5c
          clear e5b e5c
          rw [← e4] at hC4
          rw [← e5] at hC5
          have HCR2 := Aside0.mk (show Kd.C k26 wr (some ⟨gr, 0, none⟩) l2.length l2 by
            have h := Kd.C_take (m := l2.length) hC4 (by simp)
            rw [List.take_left] at h
            exact h)
          have HCN2 := Aside0.mk hC5
          clear HO50a HOr HBr hl2 hl2n hC4 hC5 e4 e5 hiN
          obtain ⟨hx0, hx1, hx2, hx3, _⟩ := HX.out.below HB50.out hg1 HB50.out.size
          go_wp2_with (first
            | ((with_reducible refine gate_callee (f := 26) rfl ?_); refine goesL_ (some 74) rfl rfl Try.func26 (by kernel_rfl) rfl #[.agg #[.int .i64 a0, .slice AA la.length cA, .slice AB m cB, .bool full], .slice (some ⟨gr, 0, none⟩) N cr, .slice A41 N c41] rfl (by (simp only [List.map_toArray, List.map_cons, List.map_nil, List.length_map]; first | done | rfl)) ?_; (refine (asks_calls' N a0 n h1n hn HE.out HN.out AA AB la.length cA m cB full (some ⟨gr, 0, none⟩) A41 cr c41 l2 HL2.out _ HCR2.out (by rw [HL2.out]; have := HN7.out; have := HCR.out; have := HLN.out; omega) HCN2.out (by rw [HL2.out, ← HLN.out]; exact HD41.out) (by rw [HL2.out]; exact hNb)).mono ?_); rintro e w74 ⟨rfl, hb⟩; refine ⟨_, rfl, ?_⟩; have HO74 := Aside0.mk (HO50.out.below hb); have HB74 := Aside0.mk (below_step HB50.out hb); clear hb HO50 HB50 HCR2 HCN2; clear hx0 hx1 hx2 hx3; obtain ⟨hx0, hx1, hx2, hx3, _⟩ := HX.out.below HB74.out hg1 HB74.out.size))
          obtain ⟨W8, hW8⟩ : ∃ W, W = w74 := ⟨_, rfl⟩
          rw [← hW8] at HO74 HB74 hx0 hx1 hx2 hx3 ⊢
          clear hW8
          go_loopg [8] 70 (fun k v8 wx => ∃ i : Nat, i ≤ 70 ∧ v8 = .int .i64 i ∧ Aside0 (k + i = 70) ∧ wx = W8)
          case atStart => exact ⟨0, Nat.zero_le _, rfl, ⟨by omega⟩, rfl⟩
          case round =>
            obtain ⟨i, hi, rfl, HK8, rfl⟩ := hrel
            by_cases hlt8 : i < 70
            · have HL8 := Aside0.mk hlt8
              obtain ⟨t, ht⟩ : ∃ t, N + i = t := ⟨_, rfl⟩
              have htn : (t : Int) < (n70 : Int) := by have := HN7.out; have := HLN.out; omega
              have hrd : rd_T26 (l2 ++ tl) (t : Int) = rr i := by rw [← ht, ← HL2.out]; exact tl_get l2 i hlt8
              obtain ⟨cs5, _, hM5, hcc5, _⟩ := HO74.out.elem (i := 1) rfl z26 (t : Int) (by omega) (by omega)
              rw [show (l2 ++ tl).getD (t : Int).toNat z26 = rr i from hrd] at hM5
              obtain rfl := k26_openM hM5
              have y5 := hcc5 0 _ rfl
              have y6 := hcc5 1 _ rfl
              simp only [Int.toNat_natCast, Nat.add_zero, show k26.sz = 2 from rfl, rr] at y5 y6
              clear hM5 hcc5 hrd
              have hs8 : wrap64 ((la.length : Int) + (i : Int)) = (t : Int) := by rw [HLN.out]; unfold wrap64; omega
              clear ht
              go_wp2_with (fail)
              go_roundg (70 - (i + 1))
              case measure => have := HK8.out; have := HL8.out; omega
              case rel => exact ⟨i + 1, by have := HL8.out; omega, by go_num, ⟨by have := HL8.out; have := HK8.out; omega⟩, rfl⟩
            · go_wp2_with (fail)
              go_ret
              exact ⟨rfl, below_then HB1.out HB1.out.size HB74.out⟩
end Go.Proofs.Ythpdemfehkoniaa.PSet
