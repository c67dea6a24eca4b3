/- The statements' fixed answers of the pool: the walk. No condition. -/
import Derived.Test.YtdgcmihnbkamgaaPoolC
import Derived.Lib.SlBytesConst
namespace Go.Proofs.Ytdgcmihnbkamgaa
open Go.RowKit
set_option linter.unusedVariables false
set_option linter.unusedSimpArgs false
def abc : List UInt8 := [97, 98, 99]
theorem abc_bys (w : World) : Bys (w.alloc (.cells #[.int .u8 97, .int .u8 98, .int .u8 99] 5 (3, 4))) (fun b => w.heap.size ≤ b) (.slice (some ⟨w.heap.size, 0, none⟩) 3 3) abc := by
  refine .inr ⟨⟨w.heap.size, 0, none⟩, 3, rfl, by decide, by decide, fun _ => Nat.le_refl _, fun j u hj => ?_⟩
  have h := heap_alloc_new w (.cells #[.int .u8 97, .int .u8 98, .int .u8 99] 5 (3, 4))
  have hadd : (⟨w.heap.size, 0, none⟩ : Addr).add j = ⟨w.heap.size, j, none⟩ := by unfold Addr.add; split <;> simp_all
  rw [hadd, Lib.cell_of_heap h]
  match j, hj with
  | 0, hj => exact hj
  | 1, hj => exact hj
  | 2, hj => exact hj
@[local go_sem] theorem conv26 (w : World) : (convert 26 26 (.slice (some ⟨w.heap.size, 0, none⟩) 3 3)).run Try.prog (w.alloc (.cells #[.int .u8 97, .int .u8 98, .int .u8 99] 5)) = .ok (.slice (some ⟨w.heap.size, 0, none⟩) 3 3) (w.alloc (.cells #[.int .u8 97, .int .u8 98, .int .u8 99] 5 (3, 4))) :=
  Lib.run_convert_bytes_const w 26 5 #[.int .u8 97, .int .u8 98, .int .u8 99] 3 3 Try.underlying26 Try.underlying5
def lA : List Md := [⟨0, 1, abc, false⟩]
def lB : List Md := [⟨0, 1, abc, false⟩, ⟨0, 1, abc, false⟩]
def lC : List Md := [⟨0, 1, [97], false⟩, ⟨0, 1, abc, false⟩]
def lD : List Md := [⟨0, 1, [97], true⟩, ⟨0, 1, abc, false⟩]
def lE : List Md := [⟨0, 1, [97], true⟩, ⟨0, 1, abc, true⟩]
theorem i1 : int64 1 := by unfold int64; omega
theorem i2 : int64 2 := by unfold int64; omega
theorem fx_put (w : World) {ok : Nat → Prop} {pb : Nat} (h : PoolAt w ok pb []) : Calls Try.prog 9 #[.pointer (some ⟨pb, 0, none⟩), .agg #[.int .i64 0, .int .i64 1, .slice (some ⟨w.heap.size, 0, none⟩) 3 3]] (w.alloc (.cells #[.int .u8 97, .int .u8 98, .int .u8 99] 5 (3, 4))) fun e w' => e = .returned (.int .i64 1) ∧ PoolAt w' (grow ok w) pb lA ∧ Turn ok w w' := by
  have hal := (Below.refl w.heap.size w).alloc (Nat.le_refl _) (.cells #[.int .u8 97, .int .u8 98, .int .u8 99] 5 (3, 4))
  refine (put_calls _ 0 1 (h.below hal) (abc_bys w) (by decide) (by decide)).mono fun e w' ⟨he, hp, ht⟩ => ⟨he, hp.mono fun b hb => hb.imp id fun h => by simp at h; omega, (Turn.of_below hal).trans (ht.mono fun b hb => .inl hb)⟩
theorem fx_made (w : World) {ok : Nat → Prop} {pb : Nat} (h : PoolAt w ok pb lA) : Calls Try.prog 11 #[.pointer (some ⟨pb, 0, none⟩)] w fun e w' => e = .returned (.int .i64 1) ∧ Below w.heap.size w w' := made_calls w h
theorem fx_copy (w : World) {ok : Nat → Prop} {pb : Nat} (h : PoolAt w ok pb lA) : Calls Try.prog 12 #[.pointer (some ⟨pb, 0, none⟩), .int .i64 1] w fun e w' => e = .returned (.tuple #[.int .i64 2, .int .i64 0]) ∧ PoolAt w' (grow ok w) pb lB ∧ Turn ok w w' :=
  copy_some w 1 i1 h (m := ⟨0, 1, abc, false⟩) rfl (by decide) (by decide)
theorem fx_trim (w : World) {ok : Nat → Prop} {pb : Nat} (h : PoolAt w ok pb lB) : Calls Try.prog 13 #[.pointer (some ⟨pb, 0, none⟩), .int .i64 1, .int .i64 2] w fun e w' => e = .returned (.int .i64 0) ∧ PoolAt w' ok pb lC ∧ Turn ok w w' :=
  trim_cut w 1 i1 2 (by decide) (by decide) h (m := ⟨0, 1, abc, false⟩) rfl (by decide) (by decide)
theorem fx_take1 (w : World) {ok : Nat → Prop} {pb : Nat} (h : PoolAt w ok pb lC) : Calls Try.prog 16 #[.pointer (some ⟨pb, 0, none⟩), .int .i64 1] w fun e w' => ∃ A c, e = .returned (.tuple #[.agg #[.int .i64 0, .int .i64 1, .slice A 1 c], .int .i64 0]) ∧ RowB w' w.heap.size (.slice A 1 c) [97] ∧ PoolAt w' ok pb lD ∧ Turn ok w w' :=
  take_calls w 1 i1 h (x := some ⟨0, 1, [97], false⟩) rfl (by decide)
theorem fx_take2 (w : World) {ok : Nat → Prop} {pb : Nat} (h : PoolAt w ok pb lD) : Calls Try.prog 16 #[.pointer (some ⟨pb, 0, none⟩), .int .i64 2] w fun e w' => ∃ A c, e = .returned (.tuple #[.agg #[.int .i64 0, .int .i64 1, .slice A 3 c], .int .i64 0]) ∧ RowB w' w.heap.size (.slice A 3 c) abc ∧ PoolAt w' ok pb lE ∧ Turn ok w w' :=
  take_calls w 2 i2 h (x := some ⟨0, 1, abc, false⟩) rfl (by decide)
theorem fx_take3 (w : World) {ok : Nat → Prop} {pb : Nat} (h : PoolAt w ok pb lE) : Calls Try.prog 16 #[.pointer (some ⟨pb, 0, none⟩), .int .i64 2] w fun e w' => ∃ A c, e = .returned (.tuple #[.agg #[.int .i64 0, .int .i64 0, .slice A 0 c], .int .i64 15]) ∧ Turn ok w w' :=
  (take_calls w 2 i2 h (x := none) rfl (by decide)).mono fun e w' ⟨A, c, he, _, _, ht⟩ => ⟨A, c, he, ht⟩
set_option maxRecDepth 100000 in
set_option maxHeartbeats 2000000 in
theorem fixed_calls (w : World) : Calls Try.prog 7 #[] w fun e w' => e = .returned (.bool true) ∧ Below w.heap.size w w' := by
  go_enter Try.func7, Try.ntmps7
  go_wp2_with (first
    | (go_at_call 8; refine (new_calls _).mono ?_; rintro e w1 ⟨pb, rfl, hpb, hp, hb⟩; have HP1 := Lib.hid hp; have HT1 := Lib.hid (show Turn (fun b => w.heap.size ≤ b) w w1 from Turn.of_below hb); clear hp hb)
    | (go_at_call 9; refine (fx_put _ HP1.out).mono ?_; rintro e w2 ⟨rfl, hp, ht⟩; have HP2 := Lib.hid (hp.mono (ok' := fun b => w.heap.size ≤ b) fun b hb => hb.elim id fun h => Nat.le_trans HT1.out.size h); have HT2 := Lib.hid (HT1.out.trans (ht.mono fun b hb => .inl hb)); clear hp ht)
    | (go_at_call 11; refine (fx_made _ HP2.out).mono ?_; rintro e w3 ⟨rfl, hb⟩; have HP3 := Lib.hid (HP2.out.below hb); have HT3 := Lib.hid (HT2.out.trans (Turn.of_below hb)); clear hb)
    | (go_at_call 12; refine (fx_copy _ HP3.out).mono ?_; rintro e w4 ⟨rfl, hp, ht⟩; have HP4 := Lib.hid (hp.mono (ok' := fun b => w.heap.size ≤ b) fun b hb => hb.elim id fun h => Nat.le_trans HT3.out.size h); have HT4 := Lib.hid (HT3.out.trans (ht.mono fun b hb => .inl hb)); clear hp ht)
    | (go_at_call 13; refine (fx_trim _ HP4.out).mono ?_; rintro e w5 ⟨rfl, hp, ht⟩; have HP5 := Lib.hid hp; have HT5 := Lib.hid (HT4.out.trans (ht.mono fun b hb => .inl hb)); clear hp ht))
  have hp5 := HP5.out.bd
  refine (fx_take1 _ hp5).mono ?_
  rintro e w6 ⟨A6, c6, rfl, ho6, hp6, ht6⟩
  have HT6 := Lib.hid (HT5.out.trans (ht6.mono fun b hb => .inl hb.1))
  have hs6 := ht6.size
  go_wp2_with fail
  have hal := (Below.refl w6.heap.size w6).alloc (Nat.le_refl _) (.cells #[.int .i64 0, .int .i64 1, .slice A6 1 c6] 31)
  have hB6 := Box3.new w6 (.int .i64 0) (.int .i64 1) (.slice A6 1 c6)
  have hP6 := hp6.below hal
  have hO6 := ho6.bys.below hal
  have hT6 := HT6.out.trans (Turn.of_below hal)
  clear HT6 ho6 hp6 ht6 hp5
  generalize w6.alloc (.cells #[.int .i64 0, .int .i64 1, .slice A6 1 c6] 31) = W6 at *
  refine (fx_take2 _ hP6).mono ?_
  rintro e w7 ⟨A7, c7, rfl, ho7, hp7, ht7⟩
  have hs7 := ht7.size
  have hT7 := hT6.trans (ht7.mono (ok' := fun b => w.heap.size ≤ b ∨ w.heap.size ≤ b) fun b hb => .inl hb.1)
  have hB7 := hB6.turn ht7 (fun h => by omega)
  have hO7 := hO6.turn ht7 (fun b hb h => by omega)
  have HT7 := Lib.hid hT7
  have HB7 := Lib.hid hB7
  have HO7 := Lib.hid hO7
  have HP7 := Lib.hid hp7
  have HQ7 := Lib.hid ho7
  have hW6 := hal.size
  clear hT6 hB6 hO6 hP6 hT7 hB7 hO7 ho7 hp7 ht7 hal
  go_wp2_with fail
  have hal := (Below.refl w7.heap.size w7).alloc (Nat.le_refl _) (.cells #[.int .i64 0, .int .i64 1, .slice A7 3 c7] 31)
  have hC7 := Box3.new w7 (.int .i64 0) (.int .i64 1) (.slice A7 3 c7)
  have hP7 := HP7.out.below hal
  have hQ7 := HQ7.out.bys.below hal
  have hO7 := HO7.out.below hal
  have hB7 := HB7.out.below hal
  have hT7 := HT7.out.trans (Turn.of_below hal)
  clear HP7 HQ7 HT7 HB7 HO7
  generalize w7.alloc (.cells #[.int .i64 0, .int .i64 1, .slice A7 3 c7] 31) = W7 at *
  refine (fx_take3 _ hP7).mono ?_
  rintro e w8 ⟨A8, c8, rfl, ht8⟩
  have hB8 := hB7.turn ht8 (fun h => by omega)
  have hC8 := hC7.turn ht8 (fun h => by omega)
  have hO8 := hO7.turn ht8 (fun b hb h => by omega)
  have hQ8 := hQ7.turn ht8 (fun b hb h => by omega)
  have hT8 := hT7.trans (ht8.mono (ok' := fun b => w.heap.size ≤ b ∨ w.heap.size ≤ b) fun b hb => .inl hb.1)
  have hal8 := (Below.refl w8.heap.size w8).alloc (Nat.le_refl _) (.cells #[.int .i64 0, .int .i64 0, .slice A8 0 c8] 31)
  have hB9 := hB8.below hal8
  have hC9 := hC8.below hal8
  have hO9 := hO8.below hal8
  have hQ9 := hQ8.below hal8
  have HT9 := Lib.hid (hT8.trans (Turn.of_below hal8))
  obtain ⟨⟨b0, b1, b2⟩, _, _, _⟩ := hB9.bx
  obtain ⟨⟨d0, d1, d2⟩, _, _, _⟩ := hC9.bx
  have s1 := hO9.str
  have s2 := hQ9.str
  clear hB7 hC7 hO7 hQ7 hT7 hB8 hC8 hO8 hQ8 hT8 ht8 hP7 hO9 hQ9 hB9 hC9 hal8
  go_wp2_with fail
  go_ret
  exact ⟨by rfl, HT9.out.below (fun b hb h => by omega) (Nat.le_refl _)⟩
end Go.Proofs.Ytdgcmihnbkamgaa
