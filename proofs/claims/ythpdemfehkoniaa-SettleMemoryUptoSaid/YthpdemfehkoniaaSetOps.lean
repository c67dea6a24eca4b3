/- SettleOps: the walk of the program's Ops: a sync for each pair. Condition: at most 1048576 pairs. -/
import Derived.Test.YthpdemfehkoniaaSet0
import Derived.Test.YthpdemfehkoniaaAO
import Derived.Deep.DeepMust
namespace Go.Proofs.Ythpdemfehkoniaa.PSet
open Go.RowKit Go.Proofs.YthpdemfehkoniaaW.PrintWords Go.Proofs.YthpdemfehkoniaaW.PrintLast Go.Proofs.YthpdemfehkoniaaW.PrintMore Go.Proofs.YthpdemfehkoniaaW.AO
set_option linter.unusedVariables false
set_option linter.unusedSimpArgs false

def opOf (b : Bool) (p : S26) : S29 := ⟨if b then 9 else 8, p.f0, 0, p.f1, ⟨#[]⟩, 0, 0⟩
theorem ops_snoc (b : Bool) (l : List S26) (i : Nat) (h : i < l.length) : (l.take i).map (opOf b) ++ [opOf b (rd_T26 l (i : Int))] = (l.take (i + 1)).map (opOf b) := by
  rw [List.take_succ_eq_append_getElem h, List.map_append, List.map_singleton]
  simp [rd_T26, List.getD_eq_getElem?_getD, List.getElem?_eq_getElem h]

set_option maxHeartbeats 4000000 in
set_option maxRecDepth 100000 in
theorem settle_Ops_t (A0 : Option Addr) (c0 : Nat) (l0 : List S26) (w : World) (hr0 : Kd.C k26 w A0 l0.length l0) (hc0 : l0.length ≤ c0) (hl : l0.length ≤ 1048576) :
    Calls Try.prog 10 #[.slice A0 l0.length c0, .bool true] w fun e w' => ∃ v0_ : Value, e = .returned v0_ ∧ Kd.R k29 29 w' w.heap.size (fun _ => True) v0_ (l0.map (opOf true)) ∧ Below w.heap.size w w' := by
  have hu26 := Try.underlying26
  have HR := Aside0.mk hr0
  have HC := Aside0.mk hc0
  have HL := Aside0.mk hl
  clear hr0 hc0 hl
  have hlen : (l0.length : Int) ≤ 1048576 := by have := HL.out; omega
  go_enter Try.func10, Try.ntmps10
  go_wp2_with ((with_reducible refine gate_dst (N := 12) rfl ?_); refine AO.make0 k29 29 rfl 12 rfl 23 _ rfl l0.length rfl Try.underlying23 _ 64 info29 (by decide) (by have := HL.out; omega) (AO.nil _ w.heap.size) (Below.refl _ _) (Nat.le_refl _) ?_; intro v1 w1 ho hb hs; have HO := Aside0.mk ho; have HB := Aside0.mk hb; clear ho hb hs)
  go_loopg [6, 15] l0.length (fun k v6 v15 wr => ∃ i : Nat, i ≤ l0.length ∧ v15 = .int .i64 i ∧ Aside0 (k + i = l0.length) ∧ Aside0 (AO wr w.heap.size [⟨k29, 29, v6, (l0.take i).map (opOf true)⟩]) ∧ Aside0 (Below w.heap.size w wr))
  case atStart => exact ⟨0, Nat.zero_le _, rfl, ⟨rfl⟩, HO, HB⟩
  case round =>
    obtain ⟨i, hi, rfl, HK, HOr, HBr⟩ := hrel
    clear HO HB
    by_cases hlt : i < l0.length
    · obtain ⟨ad, e0, hx0, hx1⟩ := at_T26 HR.out (i : Int) (by omega) (by omega)
      cases e0
      replace hx0 := (HBr.out.cell (World.block_lt_of_cell? w _ hx0)).trans hx0
      replace hx1 := (HBr.out.cell (World.block_lt_of_cell? w _ hx1)).trans hx1
      simp only [Int.toNat_natCast] at hx0 hx1
      go_wp2_with ((with_reducible refine gate_builtin (b := .append) (xs := #[.tmp 19, .tmp 26]) rfl ?_); at_builtin; go_must (refine AO.append (w0 := w) (base := w.heap.size) (L := [⟨k29, 29, u6, (l0.take i).map (opOf true)⟩]) 0 k29 ((l0.take i).map (opOf true)) (opOf true (rd_T26 l0 (i : Int))) [.int .i64 9, .int .i64 (rd_T26 l0 (i : Int)).f0, .int .i64 0, .int .i64 (rd_T26 l0 (i : Int)).f1, .string ⟨#[]⟩, .int .i64 0, .int .i64 0] rfl (.tmp 19) (.tmp 26) 23 29 _ 64 u6 rfl Try.underlying23 info29 rfl ?hs0 ?hb0 rfl ?hx ?hp ?h rfl ?HB ?hbase ?hl ?k); (case hs0 => decide); (case hb0 => decide); (case hx => first | (go_simp; done) | (go_simp; rfl)); (case hp => exact k29_mkM _ _ _ (opOf true _)); (case h => exact (HOr.out.alloc _)); (case HB => exact (below_alloc HBr.out _)); (case hbase => exact (below_alloc HBr.out _).size); (case hl => have := HL.out; have := List.length_take_le i l0; rw [List.length_map]; omega); intro v2 w2 ho hb hs; have HO := Aside0.mk ho; have HB := Aside0.mk hb; clear ho hb hs)
      go_roundg (l0.length - (i + 1))
      case measure => have := HK.out; omega
      case rel => exact ⟨i + 1, by omega, by go_num, ⟨by omega⟩, ⟨by have h := HO.out; rw [← ops_snoc true l0 i hlt]; exact h⟩, HB⟩

    · go_wp2
      go_ret
      have hil : i = l0.length := by omega
      exact ⟨_, rfl, by have h := HOr.out.own (i := 0) rfl; rw [List.take_of_length_le (by omega)] at h; exact h, HBr.out⟩

set_option maxHeartbeats 4000000 in
set_option maxRecDepth 100000 in
theorem settle_Ops_f (A0 : Option Addr) (c0 : Nat) (l0 : List S26) (w : World) (hr0 : Kd.C k26 w A0 l0.length l0) (hc0 : l0.length ≤ c0) (hl : l0.length ≤ 1048576) :
    Calls Try.prog 10 #[.slice A0 l0.length c0, .bool false] w fun e w' => ∃ v0_ : Value, e = .returned v0_ ∧ Kd.R k29 29 w' w.heap.size (fun _ => True) v0_ (l0.map (opOf false)) ∧ Below w.heap.size w w' := by
  have hu26 := Try.underlying26
  have HR := Aside0.mk hr0
  have HC := Aside0.mk hc0
  have HL := Aside0.mk hl
  clear hr0 hc0 hl
  have hlen : (l0.length : Int) ≤ 1048576 := by have := HL.out; omega
  go_enter Try.func10, Try.ntmps10
  go_wp2_with ((with_reducible refine gate_dst (N := 12) rfl ?_); refine AO.make0 k29 29 rfl 12 rfl 23 _ rfl l0.length rfl Try.underlying23 _ 64 info29 (by decide) (by have := HL.out; omega) (AO.nil _ w.heap.size) (Below.refl _ _) (Nat.le_refl _) ?_; intro v1 w1 ho hb hs; have HO := Aside0.mk ho; have HB := Aside0.mk hb; clear ho hb hs)
  go_loopg [6, 15] l0.length (fun k v6 v15 wr => ∃ i : Nat, i ≤ l0.length ∧ v15 = .int .i64 i ∧ Aside0 (k + i = l0.length) ∧ Aside0 (AO wr w.heap.size [⟨k29, 29, v6, (l0.take i).map (opOf false)⟩]) ∧ Aside0 (Below w.heap.size w wr))
  case atStart => exact ⟨0, Nat.zero_le _, rfl, ⟨rfl⟩, HO, HB⟩
  case round =>
    obtain ⟨i, hi, rfl, HK, HOr, HBr⟩ := hrel
    clear HO HB
    by_cases hlt : i < l0.length
    · obtain ⟨ad, e0, hx0, hx1⟩ := at_T26 HR.out (i : Int) (by omega) (by omega)
      cases e0
      replace hx0 := (HBr.out.cell (World.block_lt_of_cell? w _ hx0)).trans hx0
      replace hx1 := (HBr.out.cell (World.block_lt_of_cell? w _ hx1)).trans hx1
      simp only [Int.toNat_natCast] at hx0 hx1
      go_wp2_with ((with_reducible refine gate_builtin (b := .append) (xs := #[.tmp 19, .tmp 26]) rfl ?_); at_builtin; go_must (refine AO.append (w0 := w) (base := w.heap.size) (L := [⟨k29, 29, u6, (l0.take i).map (opOf false)⟩]) 0 k29 ((l0.take i).map (opOf false)) (opOf false (rd_T26 l0 (i : Int))) [.int .i64 8, .int .i64 (rd_T26 l0 (i : Int)).f0, .int .i64 0, .int .i64 (rd_T26 l0 (i : Int)).f1, .string ⟨#[]⟩, .int .i64 0, .int .i64 0] rfl (.tmp 19) (.tmp 26) 23 29 _ 64 u6 rfl Try.underlying23 info29 rfl ?hs0 ?hb0 rfl ?hx ?hp ?h rfl ?HB ?hbase ?hl ?k); (case hs0 => decide); (case hb0 => decide); (case hx => first | (go_simp; done) | (go_simp; rfl)); (case hp => exact k29_mkM _ _ _ (opOf false _)); (case h => exact (HOr.out.alloc _)); (case HB => exact (below_alloc HBr.out _)); (case hbase => exact (below_alloc HBr.out _).size); (case hl => have := HL.out; have := List.length_take_le i l0; rw [List.length_map]; omega); intro v2 w2 ho hb hs; have HO := Aside0.mk ho; have HB := Aside0.mk hb; clear ho hb hs)
      go_roundg (l0.length - (i + 1))
      case measure => have := HK.out; omega
      case rel => exact ⟨i + 1, by omega, by go_num, ⟨by omega⟩, ⟨by have h := HO.out; rw [← ops_snoc false l0 i hlt]; exact h⟩, HB⟩

    · go_wp2
      go_ret
      have hil : i = l0.length := by omega
      exact ⟨_, rfl, by have h := HOr.out.own (i := 0) rfl; rw [List.take_of_length_le (by omega)] at h; exact h, HBr.out⟩
end Go.Proofs.Ythpdemfehkoniaa.PSet
