/- The document's Reach: the walk: by origin, a row of sixteen bools turned by each talk. No condition but that the list of pairs is there. -/
import Derived.Test.YthpdemfehkoniaaSet4
import Derived.Test.YthpdemfehkoniaaSet5
import Derived.Test.YthpdemfehkoniaaAO
import Derived.Deep.DeepMust
namespace Go.Proofs.Ythpdemfehkoniaa.PSet
open Go.RowKit Go.Proofs.YthpdemfehkoniaaW.PrintWords Go.Proofs.YthpdemfehkoniaaW.PrintLast Go.Proofs.YthpdemfehkoniaaW.PrintMore Go.Proofs.YthpdemfehkoniaaW.AO
set_option linter.unusedVariables false
set_option linter.unusedSimpArgs false

def rGood (n : Int) (p : S60) : Bool := decide (0 ≤ p.f0) && decide (p.f0 < n) && decide (0 ≤ p.f1) && decide (p.f1 < n) && (p.f0 != p.f1)
theorem good_eq (n : Int) (p : S60) : barrowref26_Good.f n p.f0 p.f1 = some (rGood n p) := by
  unfold barrowref26_Good.f rGood
  by_cases h1 : p.f0 ≥ 0
  · by_cases h2 : p.f0 < n
    · by_cases h3 : p.f1 ≥ 0
      · by_cases h4 : p.f1 < n
        · rw [if_pos h1, if_pos h2, if_pos h3, if_pos h4, decide_eq_true h1, decide_eq_true h2, decide_eq_true h3, decide_eq_true h4]; rfl
        · rw [if_pos h1, if_pos h2, if_pos h3, if_neg h4, decide_eq_false h4]; simp
      · rw [if_pos h1, if_pos h2, if_neg h3, decide_eq_false h3]; simp
    · rw [if_pos h1, if_neg h2, decide_eq_false h2]; simp
  · rw [if_neg h1, decide_eq_false h1]; simp
theorem good_at {n : Int} {p : S60} (h : rGood n p = true) : 0 ≤ p.f0 ∧ p.f0 < n ∧ 0 ≤ p.f1 ∧ p.f1 < n ∧ p.f0 ≠ p.f1 := by
  unfold rGood at h
  simp only [Bool.and_eq_true, decide_eq_true_eq, bne_iff_ne] at h
  omega
def rStep (n : Int) (kn : List Bool) (p : S60) : List Bool := if rGood n p = true ∧ rdOf false kn p.f0 = true then kn.set p.f1.toNat true else kn
def rKn (n : Int) (o : Nat) (ps : List S60) : List Bool := ps.foldl (rStep n) ((List.replicate 16 false).set o true)
theorem rStep_len (n : Int) (kn : List Bool) (p : S60) : (rStep n kn p).length = kn.length := by unfold rStep; split <;> simp
theorem rKn_len (n : Int) (o : Nat) (ps : List S60) : (rKn n o ps).length = 16 := by
  have : ∀ (ps : List S60) (kn : List Bool), (ps.foldl (rStep n) kn).length = kn.length := by
    intro ps
    induction ps with
    | nil => intro kn; rfl
    | cons p ps ih => intro kn; simp only [List.foldl_cons, ih, rStep_len]
  unfold rKn
  rw [this]
  simp
theorem rKn_snoc (n : Int) (o : Nat) (ps : List S60) (i : Nat) (h : i < ps.length) : rStep n (rKn n o (ps.take i)) (rd_T60 ps (i : Int)) = rKn n o (ps.take (i + 1)) := by
  unfold rKn
  rw [List.take_succ_eq_append_getElem h, List.foldl_append]
  simp [rd_T60, List.getD_eq_getElem?_getD, List.getElem?_eq_getElem h]
def rAdd (o : Nat) (kn : List Bool) : Nat → List (List Int) → List (List Int)
  | 0, out => out
  | r + 1, out => if rdOf false kn (r : Int) = true then (rAdd o kn r out).set r ((rAdd o kn r out).getD r [] ++ [(o : Int)]) else rAdd o kn r out
theorem rAdd_len (o : Nat) (kn : List Bool) : ∀ (r : Nat) (out : List (List Int)), (rAdd o kn r out).length = out.length
  | 0, _ => rfl
  | r + 1, out => by unfold rAdd; split <;> simp [rAdd_len o kn r out]
def rOut (n : Nat) (ps : List S60) : Nat → List (List Int)
  | 0 => List.replicate n []
  | o + 1 => rAdd o (rKn n o ps) n (rOut n ps o)
theorem rOut_len (n : Nat) (ps : List S60) : ∀ o, (rOut n ps o).length = n
  | 0 => by simp [rOut]
  | o + 1 => by unfold rOut; rw [rAdd_len, rOut_len n ps o]
theorem rAdd_bound (o : Nat) (kn : List Bool) (B : Nat) : ∀ (r : Nat) (out : List (List Int)), (∀ j, (out.getD j []).length ≤ B) → ∀ j, ((rAdd o kn r out).getD j []).length ≤ (if j < r then B + 1 else B)
  | 0, out, h, j => by simp only [rAdd]; have := h j; split <;> omega
  | r + 1, out, h, j => by
    have ih := rAdd_bound o kn B r out h
    unfold rAdd
    split
    · by_cases hj : j = r
      · subst hj
        have := ih j
        rw [if_neg (by omega)] at this
        rw [if_pos (by omega)]
        by_cases hl : j < (rAdd o kn j out).length
        · rw [List.getD_eq_getElem?_getD, List.getElem?_set_self hl]; show ((rAdd o kn j out).getD j [] ++ [(o : Int)]).length ≤ _; rw [List.length_append, List.length_singleton]; omega
        · rw [List.getD_eq_getElem?_getD, List.getElem?_eq_none (by simp; omega)]; simp
      · have := ih j
        rw [List.getD_eq_getElem?_getD, List.getElem?_set_ne (by omega), ← List.getD_eq_getElem?_getD]
        split at this <;> split <;> omega
    · have := ih j
      split at this <;> split <;> omega
theorem rOut_bound (n : Nat) (ps : List S60) : ∀ o j, ((rOut n ps o).getD j []).length ≤ o
  | 0, j => by
    unfold rOut
    rw [List.getD_eq_getElem?_getD, List.getElem?_replicate]
    split <;> simp
  | o + 1, j => by
    unfold rOut
    have := rAdd_bound o (rKn n o ps) o n (rOut n ps o) (rOut_bound n ps o) j
    split at this <;> omega

theorem hne66 (v : Value) (xs : List Bool) : ∀ o, o ∈ [(⟨Kd.bool, 66, v, xs⟩ : Ob)] → ∀ q, q ∈ o.e :: o.k.E → q ≠ 45 ∧ q ≠ 3 := by
  intro o ho q hq
  rw [List.mem_singleton] at ho
  subst ho
  have : q = 66 := by simpa [Kd.bool, Kd.scalar] using hq
  subst this
  decide
theorem get16 (o : Nat) (h : o < 16) : ([Value.bool false, .bool false, .bool false, .bool false, .bool false, .bool false, .bool false, .bool false, .bool false, .bool false, .bool false, .bool false, .bool false, .bool false, .bool false, .bool false])[o]? = some (Value.bool false) := by
  have e : [Value.bool false, .bool false, .bool false, .bool false, .bool false, .bool false, .bool false, .bool false, .bool false, .bool false, .bool false, .bool false, .bool false, .bool false, .bool false, .bool false] = List.replicate 16 (Value.bool false) := rfl
  rw [e, List.getElem?_replicate, if_pos h]
theorem row16 (o : Nat) (W : World) (base : Nat) (hb : base ≤ W.heap.size) : AO (W.alloc (.cells ([Value.bool false, .bool false, .bool false, .bool false, .bool false, .bool false, .bool false, .bool false, .bool false, .bool false, .bool false, .bool false, .bool false, .bool false, .bool false, .bool false].set o (.bool true)).toArray 66)) base
    [⟨Kd.bool, 66, .slice (some ⟨W.heap.size, 0, none⟩) 16 16, (List.replicate 16 false).set o true⟩] := by
  refine AO.alloc_box Kd.bool ((List.replicate 16 false).set o true) _ 16 66 (by simp) (by decide) ?_ (AO.nil _ _) hb
  have h := Kd.reps_scalar (enc := Value.bool) ((List.replicate 16 false).set o true)
  have e : encs Value.bool ((List.replicate 16 false).set o true) = [Value.bool false, .bool false, .bool false, .bool false, .bool false, .bool false, .bool false, .bool false, .bool false, .bool false, .bool false, .bool false, .bool false, .bool false, .bool false, .bool false].set o (.bool true) := by
    unfold encs; rw [List.map_set]; rfl
  rw [e] at h
  exact h
set_option maxHeartbeats 16000000 in
set_option maxRecDepth 100000 in
theorem barrowref26_Reach_calls (a0 : Int) (n : Nat) (hrep : barrowref26_Reps.f a0 = some (n : Int)) (hn : n ≤ 16) (A1 : Option Addr) (c1 : Nat) (l1 : List S60) (w : World) (hr1 : Kd.C k60 w A1 l1.length l1) (hc1 : l1.length ≤ c1) :
    Calls Try.prog 21 #[.int .i64 a0, .slice A1 l1.length c1] w fun e w' => ∃ v0_ : Value, e = .returned v0_ ∧ Kd.S (Kd.slice 3 (Kd.int .i64)) 45 w' w.heap.size (fun _ => True) v0_ (rOut n l1 n) ∧ Below w.heap.size w w' := by
  have hu60 := Try.underlying60
  have HR := Aside0.mk hr1
  have HC := Aside0.mk hc1
  have HN := Aside0.mk hrep
  clear hr1 hc1 hrep
  have hn' : (n : Int) ≤ 16 := by omega
  have hmax := (Kd.C_max HR.out)
  go_enter Try.func21, Try.ntmps21
  go_wp2_with (first
    | ((with_reducible refine gate_callee (f := 30) rfl ?_); refine goesL_ (some 13) rfl rfl Try.func30 (by kernel_rfl) rfl #[.int .i64 a0] rfl (by (try simp only [List.map_toArray, List.map_cons, List.map_nil]); first | done | rfl) ?_; (refine (barrowref26_Reps.calls a0 n _ HN.out).mono ?_); rintro e w1 ⟨rfl, ⟨nd, rfl⟩⟩; refine ⟨_, rfl, ?_⟩; have HB1 := Aside0.mk (pw_below_drewN (Below.refl w.heap.size w) nd))
    | ((with_reducible refine gate_dst (N := 15) rfl ?_); refine Kd.S_make (Kd.slice 3 (Kd.int .i64)) w.heap.size 45 rfl (N := 15) rfl 43 _ _ rfl (n : Int) rfl rfl Try.underlying43 (.slice none 0 0) 24 info45 rfl ?hs0 ?hb0 [] (ok := fun _ => True) (okp := fun _ => True) ⟨_, rfl, Kd.R_nil _ _ _ _ _⟩ (fun _ hk => hk) trivial ?hz ?hl HB1.out HB1.out.size ?_; (case hs0 => decide); (case hb0 => decide); (case hz => omega); (case hl => omega); intro v2 w2 ho hb hg_ hnew_; have HS2 := Aside0.mk ho; have HB2 := Aside0.mk hb; clear hg_ hnew_ ho hb HB1))
  go_loopg [7] n (fun k v7 wr => ∃ o : Nat, o ≤ n ∧ v7 = .int .i64 o ∧ Aside0 (k + o = n) ∧ Aside0 (Kd.S (Kd.slice 3 (Kd.int .i64)) 45 wr w.heap.size (fun _ => True) v2 (rOut n l1 o)) ∧ Aside0 (Below w.heap.size w wr))
  case atStart => exact ⟨0, Nat.zero_le _, rfl, ⟨rfl⟩, by simpa [rOut] using HS2, HB2⟩
  case round =>
    obtain ⟨o, ho, rfl, HK, HSo, HBo⟩ := hrel
    clear HS2 HB2
    by_cases hlt : o < n
    · obtain ⟨gS, capS, e2, hbS, _⟩ := Kd.S_form HSo.out (by rw [rOut_len]; omega)
      rw [rOut_len] at e2
      subst e2
      have hoZ : (o : Int) < 16 := by omega
      have hc16 := get16 o (by omega)
      go_wp2
      clear hc16
      have n0_ := Aside0.mk (row16 o wr w.heap.size HBo.out.size)
      have n1_ := Aside0.mk (Kd.S_alloc HSo.out (.cells ([Value.bool false, .bool false, .bool false, .bool false, .bool false, .bool false, .bool false, .bool false, .bool false, .bool false, .bool false, .bool false, .bool false, .bool false, .bool false, .bool false].set o (.bool true)).toArray 66))
      have n2_ := Aside0.mk (below_alloc HBo.out (.cells ([Value.bool false, .bool false, .bool false, .bool false, .bool false, .bool false, .bool false, .bool false, .bool false, .bool false, .bool false, .bool false, .bool false, .bool false, .bool false, .bool false].set o (.bool true)).toArray 66))
      have n3_ := HBo.out.size
      generalize wr.heap.size = g1 at n0_ n3_ ⊢
      generalize (wr.alloc (.cells ([Value.bool false, .bool false, .bool false, .bool false, .bool false, .bool false, .bool false, .bool false, .bool false, .bool false, .bool false, .bool false, .bool false, .bool false, .bool false, .bool false].set o (.bool true)).toArray 66)) = w3 at n0_ n1_ n2_ ⊢
      clear HSo HBo
      go_loopg [25] l1.length (fun k v25 wi => ∃ i : Nat, i ≤ l1.length ∧ v25 = .int .i64 i ∧ Aside0 (k + i = l1.length) ∧ Aside0 (AO wi w.heap.size [⟨Kd.bool, 66, .slice (some ⟨g1, 0, none⟩) 16 16, rKn n o (l1.take i)⟩]) ∧ Aside0 (Kd.S (Kd.slice 3 (Kd.int .i64)) 45 wi w.heap.size (fun _ => True) (.slice (some ⟨gS, 0, none⟩) n capS) (rOut n l1 o)) ∧ Aside0 (Below w.heap.size w wi))
      case atStart => exact ⟨0, Nat.zero_le _, rfl, ⟨rfl⟩, n0_, n1_, n2_⟩
      case round =>
        obtain ⟨i, hi, rfl, HKi, HOi, HSi, HBi⟩ := hrel
        clear n0_ n1_ n2_
        by_cases hlti : i < l1.length
        · obtain ⟨ad, e0, hx0, hx1⟩ := at_T60 HR.out (i : Int) (by omega) (by omega)
          cases e0
          replace hx0 := (HBi.out.cell (World.block_lt_of_cell? w _ hx0)).trans hx0
          replace hx1 := (HBi.out.cell (World.block_lt_of_cell? w _ hx1)).trans hx1
          simp only [Int.toNat_natCast] at hx0 hx1
          obtain ⟨p, hp⟩ : ∃ p, p = rd_T60 l1 (i : Int) := ⟨_, rfl⟩
          rw [← hp] at hx0 hx1
          have HP := Aside0.mk hp
          clear hp
          have HG := Aside0.mk (good_eq (n : Int) p)
          have HSN := Aside0.mk (rKn_snoc (n : Int) o l1 i hlti)
          by_cases hgood : rGood (n : Int) p = true
          · obtain ⟨b0, b1, b2, b3, _⟩ := good_at hgood
            have b4 : p.f0 < 16 := by omega
            have b5 : p.f1 < 16 := by omega
            rw [hgood] at HG
            have HGd := Aside0.mk hgood
            clear hgood
            by_cases hk : rdOf false (rKn n o (l1.take i)) p.f0 = true
            · have HKt := Aside0.mk hk
              clear hk
              go_wp2_with ((with_reducible refine gate_callee (f := 31) rfl ?_); refine goesL_ (some 31) rfl rfl Try.func31 (by kernel_rfl) rfl #[.int .i64 n, .agg #[.int .i64 p.f0, .int .i64 p.f1]] rfl (by (try simp only [List.map_toArray, List.map_cons, List.map_nil]); first | done | rfl) ?_; (refine (barrowref26_Good.calls n p.f0 p.f1 true _ HG.out).mono ?_); rintro e w5 ⟨rfl, hb5⟩; refine ⟨_, rfl, ?_⟩; have HO5 := Aside0.mk ((HOi.out.alloc _).below hb5); have HS5 := Aside0.mk (Kd.S_below (Kd.S_alloc HSi.out _) hb5); have HB5 := Aside0.mk (below_step (below_alloc HBi.out _) hb5); have hc0 := pw_cell_below hb5 ((blk_cell (blk_new wr _) 0).trans rfl); have hc1 := pw_cell_below hb5 ((blk_cell (blk_new wr _) 1).trans rfl); have hkc := (HO5.out.get1 (i := 0) rfl false p.f0 b0 b4).1; rw [HKt.out] at hkc; obtain ⟨hsc, hsf⟩ := HO5.out.get1 (i := 0) rfl false p.f1 b2 b5; clear hb5 HOi HSi HBi)
              go_roundg (l1.length - (i + 1))
              case measure => have := HKi.out; omega
              case rel =>
                obtain ⟨q1, q2, q3, q4⟩ := HO5.out.put1 (i := 0) rfl p.f1 true HB5.out
                exact ⟨i + 1, by omega, by go_num, ⟨by omega⟩, ⟨by rw [← HSN.out, ← HP.out]; unfold rStep; rw [if_pos ⟨HGd.out, HKt.out⟩]; exact q1⟩, ⟨Kd.S_over' HS5.out q3 (by decide) q2⟩, ⟨q4⟩⟩
            · have HKt := Aside0.mk (Bool.eq_false_iff.mpr hk)
              clear hk
              go_wp2_with ((with_reducible refine gate_callee (f := 31) rfl ?_); refine goesL_ (some 31) rfl rfl Try.func31 (by kernel_rfl) rfl #[.int .i64 n, .agg #[.int .i64 p.f0, .int .i64 p.f1]] rfl (by (try simp only [List.map_toArray, List.map_cons, List.map_nil]); first | done | rfl) ?_; (refine (barrowref26_Good.calls n p.f0 p.f1 true _ HG.out).mono ?_); rintro e w5 ⟨rfl, hb5⟩; refine ⟨_, rfl, ?_⟩; have HO5 := Aside0.mk ((HOi.out.alloc _).below hb5); have HS5 := Aside0.mk (Kd.S_below (Kd.S_alloc HSi.out _) hb5); have HB5 := Aside0.mk (below_step (below_alloc HBi.out _) hb5);  have hc0 := pw_cell_below hb5 ((blk_cell (blk_new wr _) 0).trans rfl); have hkc := (HO5.out.get1 (i := 0) rfl false p.f0 b0 b4).1; rw [HKt.out] at hkc; clear hb5 HOi HSi HBi)
              go_roundg (l1.length - (i + 1))
              case measure => have := HKi.out; omega
              case rel =>
                exact ⟨i + 1, by omega, by go_num, ⟨by omega⟩, ⟨by rw [← HSN.out, ← HP.out]; unfold rStep; rw [if_neg (by rw [HKt.out]; simp)]; exact HO5.out⟩, HS5, HB5⟩
          · have HGd := Aside0.mk (Bool.eq_false_iff.mpr hgood)
            rw [HGd.out] at HG
            clear hgood
            go_wp2_with ((with_reducible refine gate_callee (f := 31) rfl ?_); refine goesL_ (some 31) rfl rfl Try.func31 (by kernel_rfl) rfl #[.int .i64 n, .agg #[.int .i64 p.f0, .int .i64 p.f1]] rfl (by (try simp only [List.map_toArray, List.map_cons, List.map_nil]); first | done | rfl) ?_; (refine (barrowref26_Good.calls n p.f0 p.f1 false _ HG.out).mono ?_); rintro e w5 ⟨rfl, hb5⟩; refine ⟨_, rfl, ?_⟩; have HO5 := Aside0.mk ((HOi.out.alloc _).below hb5); have HS5 := Aside0.mk (Kd.S_below (Kd.S_alloc HSi.out _) hb5); have HB5 := Aside0.mk (below_step (below_alloc HBi.out _) hb5);  clear hb5 HOi HSi HBi)
            go_roundg (l1.length - (i + 1))
            case measure => have := HKi.out; omega
            case rel =>
              exact ⟨i + 1, by omega, by go_num, ⟨by omega⟩, ⟨by rw [← HSN.out, ← HP.out]; unfold rStep; rw [if_neg (by rw [HGd.out]; simp)]; exact HO5.out⟩, HS5, HB5⟩
        · have HO6 : Aside0 (AO wr w.heap.size [⟨Kd.bool, 66, .slice (some ⟨g1, 0, none⟩) 16 16, rKn n o l1⟩]) := ⟨by have h := HOi.out; rw [List.take_of_length_le (by omega)] at h; exact h⟩
          clear HOi
          go_wp2
          go_loopg [11] n (fun k v11 wj => ∃ r : Nat, r ≤ n ∧ v11 = .int .i64 r ∧ Aside0 (k + r = n) ∧ Aside0 (AO wj w.heap.size [⟨Kd.bool, 66, .slice (some ⟨g1, 0, none⟩) 16 16, rKn n o l1⟩]) ∧ Aside0 (Kd.S (Kd.slice 3 (Kd.int .i64)) 45 wj w.heap.size (fun _ => True) (.slice (some ⟨gS, 0, none⟩) n capS) (rAdd o (rKn n o l1) r (rOut n l1 o))) ∧ Aside0 (Below w.heap.size w wj))
          case atStart => exact ⟨0, Nat.zero_le _, rfl, ⟨rfl⟩, HO6, HSi, HBi⟩
          case round =>
            obtain ⟨r, hr, rfl, HKr, HOr, HSr, HBr⟩ := hrel
            clear HO6 HSi HBi
            by_cases hltr : r < n
            · have hr16 : (r : Int) < 16 := by omega
              by_cases hk : rdOf false (rKn n o l1) (r : Int) = true
              · have hkc := (HOr.out.get1 (i := 0) rfl false (r : Int) (by omega) hr16).1
                rw [hk] at hkc
                have HKt := Aside0.mk hk
                clear hk
                obtain ⟨_, ce, hce, ⟨vi, rfl, hRi⟩, hcc, _⟩ := Kd.S_elem HSr.out [] (r : Int) (by omega) (by omega)
                obtain ⟨Ai, ci, rfl⟩ := Kd.R_slice hRi
                have hx : wr.cell? ⟨gS, (r : Int).toNat, none⟩ = some (.slice Ai ((rAdd o (rKn n o l1) r (rOut n l1 o)).getD (r : Int).toNat []).length ci) := by simpa [Kd.slice] using hcc 0 _ rfl
                clear hcc hRi hce
                simp only [Int.toNat_natCast] at hx hkc
                have HLb := Aside0.mk (show ((rAdd o (rKn n o l1) r (rOut n l1 o)).getD r []).length ≤ 17 by
                  have h := rAdd_bound o (rKn n o l1) o r (rOut n l1 o) (rOut_bound n l1 o) r
                  split at h <;> omega)
                go_wp2_with ((with_reducible refine gate_builtin (b := .append) (xs := #[.tmp 55, .tmp 57]) rfl ?_); at_builtin; refine AO.appin (w0 := w) (base := w.heap.size) (L := [⟨Kd.bool, 66, .slice (some ⟨g1, 0, none⟩) 16 16, rKn n o l1⟩]) (Kd.int .i64) 3 45 (rAdd o (rKn n o l1) r (rOut n l1 o)) gS n capS (r : Int) (o : Int) [.int .i64 o] rfl (.tmp 55) (.tmp 57) 45 _ 8 (.slice Ai ((rAdd o (rKn n o l1) r (rOut n l1 o)).getD r []).length ci) rfl Try.underlying45 info3 rfl ?hs0_58 ?hb0_58 rfl ?hx_58 ?hp_58 ?hv_58 HSr.out ?h0_58 ?h1_58 HOr.out ?hne_58 HBr.out HBr.out.size ?hl_58 ?_; (case hs0_58 => decide); (case hb0_58 => decide); (case hx_58 => first | (go_simp; done) | (go_simp; rfl)); (case hp_58 => exact rfl); (case hv_58 => rw [Int.toNat_natCast]; exact hx); (case h0_58 => omega); (case h1_58 => omega); (case hne_58 => exact hne66 _ _); (case hl_58 => have := HLb.out; rw [Int.toNat_natCast]; omega); intro A m c w1 hA hS hB hc hf; have HA7 := Aside0.mk hA; have HS7 := Aside0.mk hS; have HB7 := Aside0.mk hB; clear hA hS hB hx hkc HOr HSr HBr; simp only [Int.toNat_natCast] at hc hf HA7 HS7 HB7)
                go_roundg (n - (r + 1))
                case measure => have := HKr.out; omega
                case rel =>
                  exact ⟨r + 1, by omega, by go_num, ⟨by omega⟩, HA7, ⟨by unfold rAdd; rw [if_pos HKt.out]; exact HS7.out⟩, HB7⟩
              · have HKt := Aside0.mk (Bool.eq_false_iff.mpr hk)
                have hkc := (HOr.out.get1 (i := 0) rfl false (r : Int) (by omega) hr16).1
                rw [HKt.out] at hkc
                clear hk
                simp only [Int.toNat_natCast] at hkc
                go_wp2
                go_roundg (n - (r + 1))
                case measure => have := HKr.out; omega
                case rel =>
                  exact ⟨r + 1, by omega, by go_num, ⟨by omega⟩, HOr, ⟨by unfold rAdd; rw [if_neg (by rw [HKt.out]; simp)]; exact HSr.out⟩, HBr⟩
            · have hrn : r = n := by omega
              have HS8 : Aside0 (Kd.S (Kd.slice 3 (Kd.int .i64)) 45 wr w.heap.size (fun _ => True) (.slice (some ⟨gS, 0, none⟩) n capS) (rOut n l1 (o + 1))) := ⟨by have h := HSr.out; rw [hrn] at h; exact h⟩
              clear hrn HSr
              go_wp2
              go_roundg (n - (o + 1))
              case measure => have := HK.out; omega
              case rel =>
                exact ⟨o + 1, by omega, by go_num, ⟨by omega⟩, HS8, HBr⟩
    · go_wp2
      go_ret
      have ho' : o = n := by omega
      subst ho'
      exact ⟨_, rfl, HSo.out, HBo.out⟩
end Go.Proofs.Ythpdemfehkoniaa.PSet
