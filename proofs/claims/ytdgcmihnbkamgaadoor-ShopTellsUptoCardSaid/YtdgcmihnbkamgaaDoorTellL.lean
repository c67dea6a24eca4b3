/- ShopTells: the walk of the statement. Condition: at most 2^20 lines, each name no longer than 2^20; the table of powers of ten is laid. -/
import Derived.Test.YtdgcmihnbkamgaaDoorTellK
namespace Go.Proofs.YtdgcmihnbkamgaaDoor
open Go.RowKit
set_option linter.unusedVariables false
attribute [local go_sem ↓] Go.wp_at_zero Go.wp_at_succ
attribute [local go_sem high] eqLn
set_option maxHeartbeats 4000000 in
set_option maxRecDepth 100000 in
theorem ShopTells_some (n : Int) (n0 : -9223372036854775808 ≤ n) (n1 : n ≤ 9223372036854775807) (st : Int) (st0 : -9223372036854775808 ≤ st) (st1 : st ≤ 9223372036854775807) (t : Int) (t0 : -9223372036854775808 ≤ t) (t1 : t ≤ 9223372036854775807) (m : Int) (m0 : -9223372036854775808 ≤ m) (m1 : m ≤ 9223372036854775807)
    (a : Addr) (ls : List Ln) (hpos : 0 < ls.length) (c : Nat) (hok : LnOks ls) (w : World) (hp : Pow w) (hL : LnsAt w (some a) ls) :
    Calls Tryd.prog 4 #[.int .i64 n, .agg #[.int .i64 st, .slice (some a) ls.length c, .int .i64 t, .int .i64 m]] w fun e w' => e = .returned (.bool true) ∧ Below w.heap.size w w' := by
  obtain ⟨wd, hwd, h5, h6⟩ := bothS st st0 st1
  have H5 := Lib.hid h5
  have H6 := Lib.hid h6
  have HP := Lib.hid hp
  clear h5 h6 hp
  go_enter Tryd.func4, Tryd.ntmps4
  go_wp2
  have hH : HA w.heap.size st t m (some a) ls.length c (w.alloc (.cells #[.int .i64 st, .slice (some a) ls.length c, .int .i64 t, .int .i64 m] 28)) := heap_alloc_new w _
  obtain ⟨g, hg⟩ : ∃ g, w.heap.size = g := ⟨_, rfl⟩
  have hb0 := (Below.refl w.heap.size w).alloc (Nat.le_refl _) (.cells #[.int .i64 st, .slice (some a) ls.length c, .int .i64 t, .int .i64 m] 28)
  have hS : (w.alloc (.cells #[.int .i64 st, .slice (some a) ls.length c, .int .i64 t, .int .i64 m] 28)).heap.size = g + 1 := by simp [← hg]
  generalize (w.alloc (.cells #[.int .i64 st, .slice (some a) ls.length c, .int .i64 t, .int .i64 m] 28)) = w1 at hb0 hH hS ⊢
  rw [hg] at hH ⊢
  have HL1 := Lib.hid (hL.below hb0)
  obtain ⟨i0, hi, hz0, hz1, hz2⟩ := info_parts (show (Tryd.prog.info? 31).map (fun i => (i.zero, i.size, i.bytes)) = some (some (.agg #[.string .empty, .int .i64 0, .int .i64 0]), 3, 32) by kernel_rfl)
  have hsz1 : g + 1 ≤ w1.heap.size := Nat.le_of_eq hS.symm
  have HS := Lib.hid hS
  clear hS
  have hlen : ls.length ≤ 1048576 := hok.1
  have h63 : 0 + ls.length ≤ maxLen := by unfold maxLen; omega
  have hby : (0 + ls.length) * 32 ≤ 140737488355328 := by omega
  have hlc := lnCells_length ls
  have n0' := World.new_ne w1 ⟨g, 0, none⟩ hH.bx.1
  have n1' := World.new_ne w1 ⟨g, 1, none⟩ hH.bx.2.1
  have n2' := World.new_ne w1 ⟨g, 2, none⟩ hH.bx.2.2.1
  have n3' := World.new_ne w1 ⟨g, 3, none⟩ hH.bx.2.2.2
  have hu28 := Tryd.underlying28
  have hHg : g < w1.heap.size := hsz1
  have HB0 := Lib.hid (show Below g w w1 from hg ▸ hb0)
  clear hb0
  go_region_held3 (fun w' => w'.cell? ⟨g, 0, none⟩ = some (.int .i64 st) ∧ w'.cell? ⟨g, 1, none⟩ = some (.slice (some a) ls.length c) ∧ w'.cell? ⟨g, 2, none⟩ = some (.int .i64 t) ∧ w'.cell? ⟨g, 3, none⟩ = some (.int .i64 m))
    (first | with_reducible exact hH.bx | with_reducible exact hH.drew.bx | with_reducible exact (hH.alloc _).drew.bx | with_reducible exact ((hH.alloc _).alloc _).drew.bx | with_reducible exact (HA.b1 hH HBA.out).bx | with_reducible exact ((HA.b1 hH HBA.out).alloc _).bx | ((with_reducible refine HA.bx4 (HA.b1 hH HBA.out) _ ?_ _ _ _ _); (have hq := hHg; omega)) | ((with_reducible refine HA.bx4 (HA.b1 hH HBA.out) _ ?_ _ _ _ _); (have hq := hHg; omega)) | go_keep)
    (first
      | ((with_reducible refine (at_world (W := (w1.alloc (.cells #[] 31)).drew) ?_)); have hBW := Lib.hid (bel_dr (((Below.refl (g + 1) w1).alloc hsz1 (.cells #[] 31)))); have hOW := Lib.hid (own_dr ((World.ownsRow_made (base := g + 1) (e := 31) (size := 3) w1 #[] 0 hsz1 (by decide) rfl))); have hLW := Lib.hid ((HL1.out.alloc (.cells #[] 31)).drew); refine step_append_lies _ (by rfl) _ _ 26 (by rfl) (g + 1) 31 i0 _ 3 32 Tryd.underlying26 hi hz0 hz1 hz2 (by rfl) (by decide) _ 0 [] (by rfl) hOW.out a ls.length c (lnCells ls) (by rfl) hlc hLW.out.news (lnCells_one ls) hpos h63 hby (Nat.le_trans hsz1 (by simp)) _ rfl ?_; intro g2 cap w2 hown2 hgrow hat hlt; have HBA := Lib.hid (after_app hBW.out hsz1 hOW.out hgrow))
      | ((with_reducible refine (at_world (W := ((w1.alloc (.cells #[] 31)).alloc (.cells #[.int .i64 0, .slice none 0 0, .int .i64 0, .int .i64 0] 28)).drew) ?_)); have hBW := Lib.hid (bel_dr ((((Below.refl (g + 1) w1).alloc hsz1 (.cells #[] 31)).alloc (Nat.le_trans hsz1 (by simp)) (.cells #[.int .i64 0, .slice none 0 0, .int .i64 0, .int .i64 0] 28)))); have hOW := Lib.hid (own_dr (((World.ownsRow_made (base := g + 1) (e := 31) (size := 3) w1 #[] 0 hsz1 (by decide) rfl).alloc (.cells #[.int .i64 0, .slice none 0 0, .int .i64 0, .int .i64 0] 28)))); have hLW := Lib.hid (((HL1.out.alloc (.cells #[] 31)).alloc (.cells #[.int .i64 0, .slice none 0 0, .int .i64 0, .int .i64 0] 28)).drew); refine step_append_lies _ (by rfl) _ _ 26 (by rfl) (g + 1) 31 i0 _ 3 32 Tryd.underlying26 hi hz0 hz1 hz2 (by rfl) (by decide) _ 0 [] (by rfl) hOW.out a ls.length c (lnCells ls) (by rfl) hlc hLW.out.news (lnCells_one ls) hpos h63 hby (Nat.le_trans hsz1 (by simp; omega)) _ rfl ?_; intro g2 cap w2 hown2 hgrow hat hlt; have HBA := Lib.hid (after_app hBW.out hsz1 hOW.out hgrow); obtain ⟨⟨k0, k1, k2, k3⟩, l0, l1, l2, l3⟩ := box_cells (box_kept (box_B w1 _) hOW.out hgrow))
      | ((with_reducible refine (at_world (W := ((w1.alloc (.cells #[.int .i64 0, .slice none 0 0, .int .i64 0, .int .i64 0] 28)).alloc (.cells #[] 31)).drew) ?_)); have hBW := Lib.hid (bel_dr ((((Below.refl (g + 1) w1).alloc hsz1 (.cells #[.int .i64 0, .slice none 0 0, .int .i64 0, .int .i64 0] 28)).alloc (Nat.le_trans hsz1 (by simp)) (.cells #[] 31)))); have hOW := Lib.hid (own_c w1 (.cells #[.int .i64 0, .slice none 0 0, .int .i64 0, .int .i64 0] 28) hsz1); have hLW := Lib.hid (((HL1.out.alloc (.cells #[.int .i64 0, .slice none 0 0, .int .i64 0, .int .i64 0] 28)).alloc (.cells #[] 31)).drew); refine step_append_lies _ (by rfl) _ _ 26 (by rfl) (g + 1) 31 i0 _ 3 32 Tryd.underlying26 hi hz0 hz1 hz2 (by rfl) (by decide) _ 0 [] (by rfl) hOW.out a ls.length c (lnCells ls) (by rfl) hlc hLW.out.news (lnCells_one ls) hpos h63 hby (Nat.le_trans hsz1 (by simp; omega)) _ rfl ?_; intro g2 cap w2 hown2 hgrow hat hlt; have HBA := Lib.hid (after_app hBW.out hsz1 hOW.out hgrow); obtain ⟨⟨k0, k1, k2, k3⟩, l0, l1, l2, l3⟩ := box_cells (box_kept (box_C w1 _) hOW.out hgrow)))
  · rename_i hh
    clear hh
    obtain ⟨b, hb⟩ : ∃ b, w2.heap.size = b := ⟨_, rfl⟩
    obtain ⟨W3, hW3⟩ : ∃ W, (w2.alloc (.cells #[.int .i64 st, .slice (some ⟨g2, 0, none⟩) ls.length cap, .int .i64 t, .int .i64 m] 28)) = W := ⟨_, rfl⟩
    have HR := Lib.hid (show Rd g b st t m (some a) (some ⟨g2, 0, none⟩) ls c cap w W3 by
      have hl2 := own_lns hown2
      have hla := la2 HL1.out HS.out HBA.out
      rw [← hW3, ← hb]
      exact rd_new HB0.out hH HL1.out hHg HBA.out hl2 hla)
    rw [hW3, hb]
    clear hb hW3 hgrow hat hlt hown2 HBA hBW hOW hLW
    try clear k0 k1 k2 k3 l0 l1 l2 l3
    clear HL1 HS HB0 hH n0' n1' n2' n3' hi hz0 hz1 hz2 h63 hby hlc hsz1 hHg
    have hr0 := HR.out
    go_wp2
    go_region_held3 (fun w' => w'.cell? ⟨g, 0, none⟩ = some (.int .i64 st) ∧ w'.cell? ⟨g, 1, none⟩ = some (.slice (some a) ls.length c) ∧ w'.cell? ⟨g, 2, none⟩ = some (.int .i64 t) ∧ w'.cell? ⟨g, 3, none⟩ = some (.int .i64 m) ∧ w'.cell? ⟨b, 0, none⟩ = some (.int .i64 st) ∧ w'.cell? ⟨b, 1, none⟩ = some (.slice (some ⟨g2, 0, none⟩) ls.length cap) ∧ w'.cell? ⟨b, 2, none⟩ = some (.int .i64 t) ∧ w'.cell? ⟨b, 3, none⟩ = some (.int .i64 m))
      (first | with_reducible exact hr0.bx | with_reducible exact hr0.drew.bx | with_reducible exact HR3.out.bx | with_reducible exact HR2.out.bx | with_reducible exact HR1.out.bx)
      (first
        | (go_at_call 8; (with_reducible refine (refTell_calls n n0 n1 st t t0 t1 m m0 m1 wd hwd H6.out (some a) ls c hok _ HR2.out.la).mono ?_); rintro e w6 ⟨rfl, hb6⟩; have HR3 := Lib.hid (HR2.out.on hb6))
        | (go_at_call 7; (with_reducible refine (Tell_calls n n0 n1 st t t0 t1 m m0 m1 wd hwd H5.out (some ⟨g2, 0, none⟩) ls cap hok _ (HR1.out.pw HP.out hg) HR1.out.lb).mono ?_); rintro e w5 ⟨rfl, hb5⟩; have HR2 := Lib.hid (HR1.out.on hb5))
        | (go_at_call 7; (with_reducible refine (tell3 _ (hr0.drew.pw HP.out hg)).mono ?_); rintro e w4 ⟨rfl, hb4⟩; have HR1 := Lib.hid (hr0.drew.on hb4)))
    clear hb4 hb5 hb6 hr0 HR1 HR2
    obtain ⟨q0, q1, q2, q3, q4, q5, q6, q7⟩ := HR3.out.bx
    go_wp2
    go_loopg [6, 33] ls.length (fun k v6 v33 wr => ∃ i : Nat, i ≤ ls.length ∧ v33 = .int .i64 i ∧ k = ls.length - i ∧ Hid (Rd g b st t m (some a) (some ⟨g2, 0, none⟩) ls c cap w wr))
    case atStart => exact ⟨0, Nat.zero_le _, rfl, rfl, HR3⟩
    case round =>
      obtain ⟨i, hi, rfl, hq, HRr⟩ := hrel
      have HQ := Lib.hid hq
      clear hq q0 q1 q2 q3 q4 q5 q6 q7 HR3
      by_cases hil : i < ls.length
      · obtain ⟨x, hx⟩ : ∃ x, ls[i]? = some x := ⟨ls[i]'hil, List.getElem?_eq_getElem hil⟩
        obtain ⟨a1, e1, x0, x1, x2⟩ := HRr.out.la i x hx
        obtain ⟨a2, e2, y0, y1, y2⟩ := HRr.out.lb i x hx
        obtain rfl := Option.some.inj e1
        obtain rfl := Option.some.inj e2
        rw [add_zero_blk g2 (i * 3)] at y0 y1 y2
        obtain ⟨q0, q1, q2, q3, q4, q5, q6, q7⟩ := HRr.out.bx
        have hlt : (i : Int) < (ls.length : Int) := by omega
        have hdec : decide ((i : Int) < (ls.length : Int)) = true := decide_eq_true hlt
        have hu31 := Tryd.underlying31
        go_wp2
        go_region_held3 (fun w' => w'.cell? ⟨g, 1, none⟩ = some (.slice (some a) ls.length c) ∧ w'.cell? ⟨b, 1, none⟩ = some (.slice (some ⟨g2, 0, none⟩) ls.length cap) ∧ (w'.cell? (a.add (i * 3)) = some (.string x.s) ∧ w'.cell? ⟨(a.add (i * 3)).block, (a.add (i * 3)).off + 1, none⟩ = some (.int .i64 x.q) ∧ w'.cell? ⟨(a.add (i * 3)).block, (a.add (i * 3)).off + 2, none⟩ = some (.int .i64 x.p)) ∧ w'.cell? ⟨g2, i * 3, none⟩ = some (.string x.s) ∧ w'.cell? ⟨g2, i * 3 + 1, none⟩ = some (.int .i64 x.q) ∧ w'.cell? ⟨g2, i * 3 + 2, none⟩ = some (.int .i64 x.p))
          (exact ⟨q1, q5, ⟨x0, x1, x2⟩, y0, y1, y2⟩)
          (fail)
        go_wp2
        go_roundg (ls.length - (i + 1))
        case measure => have := HQ.out; omega
        case rel => exact ⟨i + 1, by omega, by go_num, rfl, Lib.hid HRr.out.drew⟩
      · obtain rfl : i = ls.length := by omega
        have hdec : decide ((ls.length : Int) < (ls.length : Int)) = false := decide_eq_false (by omega)
        go_wp2
        go_ret
        exact ⟨rfl, by rw [hg]; exact HRr.out.bl⟩
  · rename_i hh
    clear hh
    obtain ⟨b, hb⟩ : ∃ b, w1.heap.size + 1 = b := ⟨_, rfl⟩
    obtain ⟨W3, hW3⟩ : ∃ W, ((((w2.setCell ⟨w1.heap.size + 1, 0, none⟩ (.int .i64 st)).setCell ⟨w1.heap.size + 1, 1, none⟩ (.slice (some ⟨g2, 0, none⟩) ls.length cap)).setCell ⟨w1.heap.size + 1, 2, none⟩ (.int .i64 t)).setCell ⟨w1.heap.size + 1, 3, none⟩ (.int .i64 m)) = W := ⟨_, rfl⟩
    have HR := Lib.hid (show Rd g b st t m (some a) (some ⟨g2, 0, none⟩) ls c cap w W3 by
      have hl2 := own_lns hown2
      have hla := la2 HL1.out HS.out HBA.out
      rw [← hW3, ← hb]
      have hne : w1.heap.size + 1 ≠ g2 := by
        have h1 := hat
        simp [Value.ownBlock] at h1
        omega
      exact rd_set hpos HB0.out hH HL1.out hHg HBA.out hl2 hla (box_kept (box_B w1 _) hOW.out hgrow) (by omega) hne)
    rw [hW3, hb]
    clear hb hW3 hgrow hat hlt hown2 HBA hBW hOW hLW
    try clear k0 k1 k2 k3 l0 l1 l2 l3
    clear HL1 HS HB0 hH n0' n1' n2' n3' hi hz0 hz1 hz2 h63 hby hlc hsz1 hHg
    have hr0 := HR.out
    go_wp2
    go_region_held3 (fun w' => w'.cell? ⟨g, 0, none⟩ = some (.int .i64 st) ∧ w'.cell? ⟨g, 1, none⟩ = some (.slice (some a) ls.length c) ∧ w'.cell? ⟨g, 2, none⟩ = some (.int .i64 t) ∧ w'.cell? ⟨g, 3, none⟩ = some (.int .i64 m) ∧ w'.cell? ⟨b, 0, none⟩ = some (.int .i64 st) ∧ w'.cell? ⟨b, 1, none⟩ = some (.slice (some ⟨g2, 0, none⟩) ls.length cap) ∧ w'.cell? ⟨b, 2, none⟩ = some (.int .i64 t) ∧ w'.cell? ⟨b, 3, none⟩ = some (.int .i64 m))
      (first | with_reducible exact hr0.bx | with_reducible exact hr0.drew.bx | with_reducible exact HR3.out.bx | with_reducible exact HR2.out.bx | with_reducible exact HR1.out.bx)
      (first
        | (go_at_call 8; (with_reducible refine (refTell_calls n n0 n1 st t t0 t1 m m0 m1 wd hwd H6.out (some a) ls c hok _ HR2.out.la).mono ?_); rintro e w6 ⟨rfl, hb6⟩; have HR3 := Lib.hid (HR2.out.on hb6))
        | (go_at_call 7; (with_reducible refine (Tell_calls n n0 n1 st t t0 t1 m m0 m1 wd hwd H5.out (some ⟨g2, 0, none⟩) ls cap hok _ (HR1.out.pw HP.out hg) HR1.out.lb).mono ?_); rintro e w5 ⟨rfl, hb5⟩; have HR2 := Lib.hid (HR1.out.on hb5))
        | (go_at_call 7; (with_reducible refine (tell3 _ (hr0.drew.pw HP.out hg)).mono ?_); rintro e w4 ⟨rfl, hb4⟩; have HR1 := Lib.hid (hr0.drew.on hb4)))
    clear hb4 hb5 hb6 hr0 HR1 HR2
    obtain ⟨q0, q1, q2, q3, q4, q5, q6, q7⟩ := HR3.out.bx
    go_wp2
    go_loopg [6, 33] ls.length (fun k v6 v33 wr => ∃ i : Nat, i ≤ ls.length ∧ v33 = .int .i64 i ∧ k = ls.length - i ∧ Hid (Rd g b st t m (some a) (some ⟨g2, 0, none⟩) ls c cap w wr))
    case atStart => exact ⟨0, Nat.zero_le _, rfl, rfl, HR3⟩
    case round =>
      obtain ⟨i, hi, rfl, hq, HRr⟩ := hrel
      have HQ := Lib.hid hq
      clear hq q0 q1 q2 q3 q4 q5 q6 q7 HR3
      by_cases hil : i < ls.length
      · obtain ⟨x, hx⟩ : ∃ x, ls[i]? = some x := ⟨ls[i]'hil, List.getElem?_eq_getElem hil⟩
        obtain ⟨a1, e1, x0, x1, x2⟩ := HRr.out.la i x hx
        obtain ⟨a2, e2, y0, y1, y2⟩ := HRr.out.lb i x hx
        obtain rfl := Option.some.inj e1
        obtain rfl := Option.some.inj e2
        rw [add_zero_blk g2 (i * 3)] at y0 y1 y2
        obtain ⟨q0, q1, q2, q3, q4, q5, q6, q7⟩ := HRr.out.bx
        have hlt : (i : Int) < (ls.length : Int) := by omega
        have hdec : decide ((i : Int) < (ls.length : Int)) = true := decide_eq_true hlt
        have hu31 := Tryd.underlying31
        go_wp2
        go_region_held3 (fun w' => w'.cell? ⟨g, 1, none⟩ = some (.slice (some a) ls.length c) ∧ w'.cell? ⟨b, 1, none⟩ = some (.slice (some ⟨g2, 0, none⟩) ls.length cap) ∧ (w'.cell? (a.add (i * 3)) = some (.string x.s) ∧ w'.cell? ⟨(a.add (i * 3)).block, (a.add (i * 3)).off + 1, none⟩ = some (.int .i64 x.q) ∧ w'.cell? ⟨(a.add (i * 3)).block, (a.add (i * 3)).off + 2, none⟩ = some (.int .i64 x.p)) ∧ w'.cell? ⟨g2, i * 3, none⟩ = some (.string x.s) ∧ w'.cell? ⟨g2, i * 3 + 1, none⟩ = some (.int .i64 x.q) ∧ w'.cell? ⟨g2, i * 3 + 2, none⟩ = some (.int .i64 x.p))
          (exact ⟨q1, q5, ⟨x0, x1, x2⟩, y0, y1, y2⟩)
          (fail)
        go_wp2
        go_roundg (ls.length - (i + 1))
        case measure => have := HQ.out; omega
        case rel => exact ⟨i + 1, by omega, by go_num, rfl, Lib.hid HRr.out.drew⟩
      · obtain rfl : i = ls.length := by omega
        have hdec : decide ((ls.length : Int) < (ls.length : Int)) = false := decide_eq_false (by omega)
        go_wp2
        go_ret
        exact ⟨rfl, by rw [hg]; exact HRr.out.bl⟩
  · rename_i hh
    clear hh
    obtain ⟨b, hb⟩ : ∃ b, w1.heap.size = b := ⟨_, rfl⟩
    obtain ⟨W3, hW3⟩ : ∃ W, ((((w2.setCell ⟨w1.heap.size, 0, none⟩ (.int .i64 st)).setCell ⟨w1.heap.size, 1, none⟩ (.slice (some ⟨g2, 0, none⟩) ls.length cap)).setCell ⟨w1.heap.size, 2, none⟩ (.int .i64 t)).setCell ⟨w1.heap.size, 3, none⟩ (.int .i64 m)) = W := ⟨_, rfl⟩
    have HR := Lib.hid (show Rd g b st t m (some a) (some ⟨g2, 0, none⟩) ls c cap w W3 by
      have hl2 := own_lns hown2
      have hla := la2 HL1.out HS.out HBA.out
      rw [← hW3, ← hb]
      have hne : w1.heap.size ≠ g2 := by
        have h1 := hat
        simp [Value.ownBlock] at h1
        omega
      exact rd_set hpos HB0.out hH HL1.out hHg HBA.out hl2 hla (box_kept (box_C w1 _) hOW.out hgrow) (by omega) hne)
    rw [hW3, hb]
    clear hb hW3 hgrow hat hlt hown2 HBA hBW hOW hLW
    try clear k0 k1 k2 k3 l0 l1 l2 l3
    clear HL1 HS HB0 hH n0' n1' n2' n3' hi hz0 hz1 hz2 h63 hby hlc hsz1 hHg
    have hr0 := HR.out
    go_wp2
    go_region_held3 (fun w' => w'.cell? ⟨g, 0, none⟩ = some (.int .i64 st) ∧ w'.cell? ⟨g, 1, none⟩ = some (.slice (some a) ls.length c) ∧ w'.cell? ⟨g, 2, none⟩ = some (.int .i64 t) ∧ w'.cell? ⟨g, 3, none⟩ = some (.int .i64 m) ∧ w'.cell? ⟨b, 0, none⟩ = some (.int .i64 st) ∧ w'.cell? ⟨b, 1, none⟩ = some (.slice (some ⟨g2, 0, none⟩) ls.length cap) ∧ w'.cell? ⟨b, 2, none⟩ = some (.int .i64 t) ∧ w'.cell? ⟨b, 3, none⟩ = some (.int .i64 m))
      (first | with_reducible exact hr0.bx | with_reducible exact hr0.drew.bx | with_reducible exact HR3.out.bx | with_reducible exact HR2.out.bx | with_reducible exact HR1.out.bx)
      (first
        | (go_at_call 8; (with_reducible refine (refTell_calls n n0 n1 st t t0 t1 m m0 m1 wd hwd H6.out (some a) ls c hok _ HR2.out.la).mono ?_); rintro e w6 ⟨rfl, hb6⟩; have HR3 := Lib.hid (HR2.out.on hb6))
        | (go_at_call 7; (with_reducible refine (Tell_calls n n0 n1 st t t0 t1 m m0 m1 wd hwd H5.out (some ⟨g2, 0, none⟩) ls cap hok _ (HR1.out.pw HP.out hg) HR1.out.lb).mono ?_); rintro e w5 ⟨rfl, hb5⟩; have HR2 := Lib.hid (HR1.out.on hb5))
        | (go_at_call 7; (with_reducible refine (tell3 _ (hr0.drew.pw HP.out hg)).mono ?_); rintro e w4 ⟨rfl, hb4⟩; have HR1 := Lib.hid (hr0.drew.on hb4)))
    clear hb4 hb5 hb6 hr0 HR1 HR2
    obtain ⟨q0, q1, q2, q3, q4, q5, q6, q7⟩ := HR3.out.bx
    go_wp2
    go_loopg [6, 33] ls.length (fun k v6 v33 wr => ∃ i : Nat, i ≤ ls.length ∧ v33 = .int .i64 i ∧ k = ls.length - i ∧ Hid (Rd g b st t m (some a) (some ⟨g2, 0, none⟩) ls c cap w wr))
    case atStart => exact ⟨0, Nat.zero_le _, rfl, rfl, HR3⟩
    case round =>
      obtain ⟨i, hi, rfl, hq, HRr⟩ := hrel
      have HQ := Lib.hid hq
      clear hq q0 q1 q2 q3 q4 q5 q6 q7 HR3
      by_cases hil : i < ls.length
      · obtain ⟨x, hx⟩ : ∃ x, ls[i]? = some x := ⟨ls[i]'hil, List.getElem?_eq_getElem hil⟩
        obtain ⟨a1, e1, x0, x1, x2⟩ := HRr.out.la i x hx
        obtain ⟨a2, e2, y0, y1, y2⟩ := HRr.out.lb i x hx
        obtain rfl := Option.some.inj e1
        obtain rfl := Option.some.inj e2
        rw [add_zero_blk g2 (i * 3)] at y0 y1 y2
        obtain ⟨q0, q1, q2, q3, q4, q5, q6, q7⟩ := HRr.out.bx
        have hlt : (i : Int) < (ls.length : Int) := by omega
        have hdec : decide ((i : Int) < (ls.length : Int)) = true := decide_eq_true hlt
        have hu31 := Tryd.underlying31
        go_wp2
        go_region_held3 (fun w' => w'.cell? ⟨g, 1, none⟩ = some (.slice (some a) ls.length c) ∧ w'.cell? ⟨b, 1, none⟩ = some (.slice (some ⟨g2, 0, none⟩) ls.length cap) ∧ (w'.cell? (a.add (i * 3)) = some (.string x.s) ∧ w'.cell? ⟨(a.add (i * 3)).block, (a.add (i * 3)).off + 1, none⟩ = some (.int .i64 x.q) ∧ w'.cell? ⟨(a.add (i * 3)).block, (a.add (i * 3)).off + 2, none⟩ = some (.int .i64 x.p)) ∧ w'.cell? ⟨g2, i * 3, none⟩ = some (.string x.s) ∧ w'.cell? ⟨g2, i * 3 + 1, none⟩ = some (.int .i64 x.q) ∧ w'.cell? ⟨g2, i * 3 + 2, none⟩ = some (.int .i64 x.p))
          (exact ⟨q1, q5, ⟨x0, x1, x2⟩, y0, y1, y2⟩)
          (fail)
        go_wp2
        go_roundg (ls.length - (i + 1))
        case measure => have := HQ.out; omega
        case rel => exact ⟨i + 1, by omega, by go_num, rfl, Lib.hid HRr.out.drew⟩
      · obtain rfl : i = ls.length := by omega
        have hdec : decide ((ls.length : Int) < (ls.length : Int)) = false := decide_eq_false (by omega)
        go_wp2
        go_ret
        exact ⟨rfl, by rw [hg]; exact HRr.out.bl⟩
end Go.Proofs.YtdgcmihnbkamgaaDoor
